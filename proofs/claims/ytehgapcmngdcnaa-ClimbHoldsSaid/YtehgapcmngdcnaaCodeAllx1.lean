/- The code of functions of the program, for the abstract machine; each is what the function is turned into. No condition. -/
import Derived.Test.YtehgapcmngdcnaaEvaO
import Derived.Test.YtehgapcmngdcnaaChecked
import Derived.KernelRfl
namespace Go.Proofs.Ytehgapcmngdcnaa.CodeAll
open Go Go.Proofs.Ytehgapcmngdcnaa.Eva
/-- skyway/filter.Update -/
def c29 : CF where
  np := 5
  nt := 245
  res := [.cn 20 10, .t 11]
  code := .seq (.reg [
      ⟨(some 5), .box (.t 0), none, [], false⟩,
      ⟨(some 6), .box (.t 1), none, [], false⟩,
      ⟨(some 10), .new [.int .i64 0, .int .i64 0, .int .i64 0, .int .i64 0, .int .i64 0, .int .i64 0, .int .i64 0, .int .i64 0, .int .i64 0, .int .i64 0, .int .i64 0, .int .i64 0, .int .i64 0, .int .i64 0, .int .i64 0, .int .i64 0, .int .i64 0, .int .i64 0, .int .i64 0, .int .i64 0], none, [], false⟩,
      ⟨(some 11), .mv (.k (.int .i64 0)), none, [], false⟩])
    (.seq (.seq (.reg [
        ⟨(some 21), .ldn 20 (.t 5), none, [], false⟩,
        ⟨(some 22), .call (.k (.fn 52 [])) [(.t 21)], none, [], false⟩,
        ⟨(some 12), .mv (.t 22), none, [], false⟩])
      (.seq (.reg [
         ⟨(some 23), .mv (.t 12), none, [], false⟩,
         ⟨(some 24), .bin .neq (.t 23) (.k (.int .i64 0)), none, [], false⟩])
       (.cond (.t 24) (.seq (.reg [
           ⟨(some 25), .mk [.int .i64 0, .int .i64 0, .int .i64 0, .int .i64 0, .int .i64 0, .int .i64 0, .int .i64 0, .int .i64 0, .int .i64 0, .int .i64 0, .int .i64 0, .int .i64 0, .int .i64 0, .int .i64 0, .int .i64 0, .int .i64 0, .int .i64 0, .int .i64 0, .int .i64 0, .int .i64 0] [], none, [], false⟩,
           ⟨(some 26), .mv (.t 12), none, [], false⟩,
           ⟨none, .st 20 (.t 10) (.t 25), none, [], false⟩,
           ⟨(some 11), .mv (.t 26), none, [], false⟩])
         (.ret))
        (.skip))))
     (.seq (.seq (.reg [
         ⟨(some 27), .ldn 6 (.t 6), none, [], false⟩,
         ⟨(some 28), .call (.k (.fn 57 [])) [(.t 27)], none, [], false⟩,
         ⟨(some 13), .mv (.t 28), none, [], false⟩])
       (.seq (.reg [
          ⟨(some 29), .mv (.t 13), none, [], false⟩,
          ⟨(some 30), .bin .neq (.t 29) (.k (.int .i64 0)), none, [], false⟩])
        (.cond (.t 30) (.seq (.reg [
            ⟨(some 31), .mk [.int .i64 0, .int .i64 0, .int .i64 0, .int .i64 0, .int .i64 0, .int .i64 0, .int .i64 0, .int .i64 0, .int .i64 0, .int .i64 0, .int .i64 0, .int .i64 0, .int .i64 0, .int .i64 0, .int .i64 0, .int .i64 0, .int .i64 0, .int .i64 0, .int .i64 0, .int .i64 0] [], none, [], false⟩,
            ⟨(some 32), .mv (.t 13), none, [], false⟩,
            ⟨none, .st 20 (.t 10) (.t 31), none, [], false⟩,
            ⟨(some 11), .mv (.t 32), none, [], false⟩])
          (.ret))
         (.skip))))
      (.seq (.seq (.reg [
          ⟨(some 33), .mv (.t 3), none, [], false⟩,
          ⟨(some 34), .bin .lss (.t 33) (.k (.int .i64 0)), none, [], false⟩,
          ⟨(some 35), .mv (.t 34), none, [], false⟩,
          ⟨(some 36), .mv (.t 3), (some (35, false)), [], false⟩,
          ⟨(some 37), .bin .gtr (.t 36) (.k (.int .i64 256)), (some (35, false)), [], false⟩,
          ⟨(some 38), .pick (.t 35) (.k (.bool true)) (.t 37), none, [], false⟩,
          ⟨(some 39), .mv (.t 38), none, [], false⟩,
          ⟨(some 40), .mv (.t 4), (some (39, false)), [], false⟩,
          ⟨(some 41), .bin .lss (.t 40) (.k (.int .i64 0)), (some (39, false)), [], false⟩,
          ⟨(some 42), .pick (.t 39) (.k (.bool true)) (.t 41), none, [], false⟩,
          ⟨(some 43), .mv (.t 42), none, [], false⟩,
          ⟨(some 44), .mv (.t 4), (some (43, false)), [], false⟩,
          ⟨(some 45), .bin .gtr (.t 44) (.k (.int .i64 256)), (some (43, false)), [], false⟩,
          ⟨(some 46), .pick (.t 43) (.k (.bool true)) (.t 45), none, [], false⟩])
        (.cond (.t 46) (.seq (.reg [
            ⟨(some 47), .mk [.int .i64 0, .int .i64 0, .int .i64 0, .int .i64 0, .int .i64 0, .int .i64 0, .int .i64 0, .int .i64 0, .int .i64 0, .int .i64 0, .int .i64 0, .int .i64 0, .int .i64 0, .int .i64 0, .int .i64 0, .int .i64 0, .int .i64 0, .int .i64 0, .int .i64 0, .int .i64 0] [], none, [], false⟩,
            ⟨none, .st 20 (.t 10) (.t 47), none, [], false⟩,
            ⟨(some 11), .mv (.k (.int .i64 4)), none, [], false⟩])
          (.ret))
         (.skip)))
       (.seq (.reg [
          ⟨(some 48), .fad 0 (.t 6), none, [], false⟩,
          ⟨(some 49), .ld1 (.t 48), none, [], false⟩,
          ⟨(some 50), .fad 14 (.t 5), none, [], false⟩,
          ⟨(some 51), .fad 0 (.t 50), none, [], false⟩,
          ⟨(some 52), .ld1 (.t 51), none, [], false⟩,
          ⟨(some 53), .bin .sub (.t 49) (.t 52), none, [], false⟩,
          ⟨(some 14), .mv (.t 53), none, [], false⟩])
        (.seq (.seq (.reg [
            ⟨(some 54), .mv (.t 14), none, [], false⟩,
            ⟨(some 55), .bin .leq (.t 54) (.k (.int .i64 0)), none, [], false⟩])
          (.cond (.t 55) (.seq (.reg [
              ⟨(some 56), .mk [.int .i64 0, .int .i64 0, .int .i64 0, .int .i64 0, .int .i64 0, .int .i64 0, .int .i64 0, .int .i64 0, .int .i64 0, .int .i64 0, .int .i64 0, .int .i64 0, .int .i64 0, .int .i64 0, .int .i64 0, .int .i64 0, .int .i64 0, .int .i64 0, .int .i64 0, .int .i64 0] [], none, [], false⟩,
              ⟨none, .st 20 (.t 10) (.t 56), none, [], false⟩,
              ⟨(some 11), .mv (.k (.int .i64 12)), none, [], false⟩])
            (.ret))
           (.skip)))
         (.seq (.reg [
            ⟨(some 58), .ldn 20 (.t 5), none, [], false⟩,
            ⟨(some 59), .fad 0 (.t 6), none, [], false⟩,
            ⟨(some 60), .ld1 (.t 59), none, [], false⟩,
            ⟨(some 61), .mv (.t 2), none, [], false⟩,
            ⟨(some 62), .call (.k (.fn 27 [])) [(.t 58), (.t 60), (.t 61)], none, [], false⟩,
            ⟨(some 57), .mv (.t 62), none, [], false⟩,
            ⟨(some 63), .ext (.t 57) 0, none, [], false⟩,
            ⟨(some 64), .ext (.t 57) 1, none, [], false⟩,
            ⟨(some 15), .new [.int .i64 0, .int .i64 0, .int .i64 0, .int .i64 0, .int .i64 0, .int .i64 0, .int .i64 0, .int .i64 0, .int .i64 0, .int .i64 0, .int .i64 0, .int .i64 0, .int .i64 0, .int .i64 0, .int .i64 0, .int .i64 0, .int .i64 0, .int .i64 0, .int .i64 0, .int .i64 0], none, [], false⟩,
            ⟨none, .st 20 (.t 15) (.t 63), none, [], false⟩,
            ⟨(some 16), .mv (.t 64), none, [], false⟩])
          (.seq (.seq (.reg [
              ⟨(some 65), .mv (.t 16), none, [], false⟩,
              ⟨(some 66), .bin .neq (.t 65) (.k (.int .i64 0)), none, [], false⟩])
            (.cond (.t 66) (.seq (.reg [
                ⟨(some 67), .mk [.int .i64 0, .int .i64 0, .int .i64 0, .int .i64 0, .int .i64 0, .int .i64 0, .int .i64 0, .int .i64 0, .int .i64 0, .int .i64 0, .int .i64 0, .int .i64 0, .int .i64 0, .int .i64 0, .int .i64 0, .int .i64 0, .int .i64 0, .int .i64 0, .int .i64 0, .int .i64 0] [], none, [], false⟩,
                ⟨(some 68), .mv (.t 16), none, [], false⟩,
                ⟨none, .st 20 (.t 10) (.t 67), none, [], false⟩,
                ⟨(some 11), .mv (.t 68), none, [], false⟩])
              (.ret))
             (.skip)))
           (.seq (.reg [
              ⟨(some 69), .fad 0 (.t 15), none, [], false⟩,
              ⟨(some 17), .mv (.t 69), none, [], false⟩])
            (.seq (.seq (.reg [
                ⟨(some 70), .mv (.t 17), none, [], false⟩,
                ⟨(some 71), .nchk (.t 70), none, [], false⟩,
                ⟨(some 72), .fad 9 (.t 71), none, [], false⟩,
                ⟨(some 73), .ld1 (.t 72), none, [], false⟩,
                ⟨(some 74), .fad 5 (.t 6), none, [], false⟩,
                ⟨(some 75), .ld1 (.t 74), none, [], false⟩,
                ⟨(some 76), .bin .add (.t 73) (.t 75), none, [], false⟩,
                ⟨(some 18), .mv (.t 76), none, [], false⟩])
              (.seq (.reg [
                 ⟨(some 77), .mv (.t 17), none, [], false⟩,
                 ⟨(some 78), .nchk (.t 77), none, [], false⟩,
                 ⟨(some 79), .fad 3 (.t 78), none, [], false⟩,
                 ⟨(some 80), .ldn 2 (.t 79), none, [], false⟩,
                 ⟨(some 81), .fad 1 (.t 6), none, [], false⟩,
                 ⟨(some 82), .ldn 2 (.t 81), none, [], false⟩,
                 ⟨(some 84), .mv (.t 18), none, [], false⟩,
                 ⟨(some 85), .mv (.t 18), none, [], false⟩,
                 ⟨(some 86), .bin .mul (.t 84) (.t 85), none, [], false⟩,
                 ⟨(some 83), .call (.k (.fn 58 [])) [(.t 80), (.t 82)], none, [], false⟩,
                 ⟨(some 87), .bin .gtr (.t 83) (.t 86), none, [], false⟩])
               (.cond (.t 87) (.seq (.reg [
                   ⟨(some 88), .mk [.int .i64 0, .int .i64 0, .int .i64 0, .int .i64 0, .int .i64 0, .int .i64 0, .int .i64 0, .int .i64 0, .int .i64 0, .int .i64 0, .int .i64 0, .int .i64 0, .int .i64 0, .int .i64 0, .int .i64 0, .int .i64 0, .int .i64 0, .int .i64 0, .int .i64 0, .int .i64 0] [], none, [], false⟩,
                   ⟨none, .st 20 (.t 10) (.t 88), none, [], false⟩,
                   ⟨(some 11), .mv (.k (.int .i64 8)), none, [], false⟩])
                 (.ret))
                (.skip))))
             (.seq (.reg [
                ⟨(some 89), .mv (.t 17), none, [], false⟩,
                ⟨(some 90), .mv (.t 17), none, [], false⟩,
                ⟨(some 91), .nchk (.t 90), none, [], false⟩,
                ⟨(some 92), .fad 3 (.t 91), none, [], false⟩,
                ⟨(some 93), .fad 0 (.t 92), none, [], false⟩,
                ⟨(some 94), .ld1 (.t 93), none, [], false⟩,
                ⟨(some 95), .fad 1 (.t 6), none, [], false⟩,
                ⟨(some 96), .fad 0 (.t 95), none, [], false⟩,
                ⟨(some 97), .ld1 (.t 96), none, [], false⟩,
                ⟨(some 98), .mv (.t 3), none, [], false⟩,
                ⟨(some 100), .mv (.t 17), none, [], false⟩,
                ⟨(some 101), .nchk (.t 100), none, [], false⟩,
                ⟨(some 102), .fad 3 (.t 101), none, [], false⟩,
                ⟨(some 103), .fad 1 (.t 102), none, [], false⟩,
                ⟨(some 104), .ld1 (.t 103), none, [], false⟩,
                ⟨(some 105), .fad 1 (.t 6), none, [], false⟩,
                ⟨(some 106), .fad 1 (.t 105), none, [], false⟩,
                ⟨(some 107), .ld1 (.t 106), none, [], false⟩,
                ⟨(some 108), .mv (.t 3), none, [], false⟩,
                ⟨(some 99), .call (.k (.fn 59 [])) [(.t 94), (.t 97), (.t 98)], none, [], true⟩,
                ⟨(some 109), .call (.k (.fn 59 [])) [(.t 104), (.t 107), (.t 108)], none, [], false⟩,
                ⟨(some 110), .mk [.int .i64 0, .int .i64 0] [(0, 1, (.t 99)), (1, 1, (.t 109))], none, [], false⟩,
                ⟨(some 111), .nchk (.t 89), none, [], false⟩,
                ⟨(some 112), .fad 3 (.t 111), none, [], false⟩,
                ⟨none, .st 2 (.t 112) (.t 110), none, [], false⟩])
              (.seq (.reg [
                 ⟨(some 113), .mv (.t 17), none, [], false⟩,
                 ⟨(some 114), .mv (.t 3), none, [], false⟩,
                 ⟨(some 115), .bin .sub (.k (.int .i64 256)) (.t 114), none, [], false⟩,
                 ⟨(some 116), .mv (.t 17), none, [], false⟩,
                 ⟨(some 117), .nchk (.t 116), none, [], false⟩,
                 ⟨(some 118), .fad 9 (.t 117), none, [], false⟩,
                 ⟨(some 119), .ld1 (.t 118), none, [], false⟩,
                 ⟨(some 120), .bin .mul (.t 115) (.t 119), none, [], false⟩,
                 ⟨(some 121), .mv (.t 3), none, [], false⟩,
                 ⟨(some 122), .fad 5 (.t 6), none, [], false⟩,
                 ⟨(some 123), .ld1 (.t 122), none, [], false⟩,
                 ⟨(some 124), .bin .mul (.t 121) (.t 123), none, [], false⟩,
                 ⟨(some 125), .bin .add (.t 120) (.t 124), none, [], false⟩,
                 ⟨(some 126), .call (.k (.fn 55 [])) [(.t 125), (.k (.int .i64 256))], none, [], false⟩,
                 ⟨(some 127), .bin .add (.t 126) (.k (.int .i64 2)), none, [], false⟩,
                 ⟨(some 128), .nchk (.t 113), none, [], false⟩,
                 ⟨(some 129), .fad 9 (.t 128), none, [], false⟩,
                 ⟨none, .st 1 (.t 129) (.t 127), none, [], false⟩])
               (.seq (.reg [
                  ⟨(some 130), .fad 1 (.t 6), none, [], false⟩,
                  ⟨(some 131), .fad 0 (.t 130), none, [], false⟩,
                  ⟨(some 132), .ld1 (.t 131), none, [], false⟩,
                  ⟨(some 133), .fad 14 (.t 5), none, [], false⟩,
                  ⟨(some 134), .fad 1 (.t 133), none, [], false⟩,
                  ⟨(some 135), .fad 0 (.t 134), none, [], false⟩,
                  ⟨(some 136), .ld1 (.t 135), none, [], false⟩,
                  ⟨(some 137), .bin .sub (.t 132) (.t 136), none, [], false⟩,
                  ⟨(some 138), .bin .mul (.k (.int .i64 16)) (.t 137), none, [], false⟩,
                  ⟨(some 139), .mv (.t 14), none, [], false⟩,
                  ⟨(some 141), .fad 1 (.t 6), none, [], false⟩,
                  ⟨(some 142), .fad 1 (.t 141), none, [], false⟩,
                  ⟨(some 143), .ld1 (.t 142), none, [], false⟩,
                  ⟨(some 144), .fad 14 (.t 5), none, [], false⟩,
                  ⟨(some 145), .fad 1 (.t 144), none, [], false⟩,
                  ⟨(some 146), .fad 1 (.t 145), none, [], false⟩,
                  ⟨(some 147), .ld1 (.t 146), none, [], false⟩,
                  ⟨(some 148), .bin .sub (.t 143) (.t 147), none, [], false⟩,
                  ⟨(some 149), .bin .mul (.k (.int .i64 16)) (.t 148), none, [], false⟩,
                  ⟨(some 150), .mv (.t 14), none, [], false⟩,
                  ⟨(some 19), .new [.int .i64 0, .int .i64 0], none, [], false⟩,
                  ⟨(some 140), .call (.k (.fn 53 [])) [(.t 138), (.t 139)], none, [], true⟩,
                  ⟨(some 151), .call (.k (.fn 53 [])) [(.t 149), (.t 150)], none, [], false⟩,
                  ⟨(some 152), .mk [.int .i64 0, .int .i64 0] [(0, 1, (.t 140)), (1, 1, (.t 151))], none, [], false⟩,
                  ⟨none, .st 2 (.t 19) (.t 152), none, [], false⟩])
                (.seq (.reg [
                   ⟨(some 153), .fad 5 (.t 6), none, [], false⟩,
                   ⟨(some 154), .ld1 (.t 153), none, [], false⟩,
                   ⟨(some 155), .fad 14 (.t 5), none, [], false⟩,
                   ⟨(some 156), .fad 5 (.t 155), none, [], false⟩,
                   ⟨(some 157), .ld1 (.t 156), none, [], false⟩,
                   ⟨(some 158), .bin .add (.t 154) (.t 157), none, [], false⟩,
                   ⟨(some 159), .bin .mul (.k (.int .i64 16)) (.t 158), none, [], false⟩,
                   ⟨(some 160), .mv (.t 14), none, [], false⟩,
                   ⟨(some 161), .call (.k (.fn 55 [])) [(.t 159), (.t 160)], none, [], false⟩,
                   ⟨(some 162), .mv (.t 2), none, [], false⟩,
                   ⟨(some 163), .bin .mul (.k (.int .i64 16)) (.t 162), none, [], false⟩,
                   ⟨(some 164), .mv (.t 14), none, [], false⟩,
                   ⟨(some 165), .bin .mul (.t 163) (.t 164), none, [], false⟩,
                   ⟨(some 166), .bin .add (.t 161) (.t 165), none, [], false⟩,
                   ⟨(some 167), .bin .add (.t 166) (.k (.int .i64 2)), none, [], false⟩,
                   ⟨(some 20), .mv (.t 167), none, [], false⟩])
                 (.seq (.reg [
                    ⟨(some 168), .mv (.t 17), none, [], false⟩,
                    ⟨(some 169), .mv (.t 17), none, [], false⟩,
                    ⟨(some 170), .nchk (.t 169), none, [], false⟩,
                    ⟨(some 171), .fad 5 (.t 170), none, [], false⟩,
                    ⟨(some 172), .fad 0 (.t 171), none, [], false⟩,
                    ⟨(some 173), .ld1 (.t 172), none, [], false⟩,
                    ⟨(some 174), .fad 0 (.t 19), none, [], false⟩,
                    ⟨(some 175), .ld1 (.t 174), none, [], false⟩,
                    ⟨(some 176), .mv (.t 4), none, [], false⟩,
                    ⟨(some 178), .mv (.t 17), none, [], false⟩,
                    ⟨(some 179), .nchk (.t 178), none, [], false⟩,
                    ⟨(some 180), .fad 5 (.t 179), none, [], false⟩,
                    ⟨(some 181), .fad 1 (.t 180), none, [], false⟩,
                    ⟨(some 182), .ld1 (.t 181), none, [], false⟩,
                    ⟨(some 183), .fad 1 (.t 19), none, [], false⟩,
                    ⟨(some 184), .ld1 (.t 183), none, [], false⟩,
                    ⟨(some 185), .mv (.t 4), none, [], false⟩,
                    ⟨(some 177), .call (.k (.fn 59 [])) [(.t 173), (.t 175), (.t 176)], none, [], true⟩,
                    ⟨(some 186), .call (.k (.fn 59 [])) [(.t 182), (.t 184), (.t 185)], none, [], false⟩,
                    ⟨(some 187), .mk [.int .i64 0, .int .i64 0] [(0, 1, (.t 177)), (1, 1, (.t 186))], none, [], false⟩,
                    ⟨(some 188), .nchk (.t 168), none, [], false⟩,
                    ⟨(some 189), .fad 5 (.t 188), none, [], false⟩,
                    ⟨none, .st 2 (.t 189) (.t 187), none, [], false⟩])
                  (.seq (.reg [
                     ⟨(some 190), .mv (.t 4), none, [], false⟩,
                     ⟨(some 191), .bin .sub (.k (.int .i64 256)) (.t 190), none, [], false⟩,
                     ⟨(some 192), .fad 13 (.t 15), none, [], false⟩,
                     ⟨(some 193), .ld1 (.t 192), none, [], false⟩,
                     ⟨(some 194), .bin .mul (.t 191) (.t 193), none, [], false⟩,
                     ⟨(some 195), .mv (.t 4), none, [], false⟩,
                     ⟨(some 196), .mv (.t 20), none, [], false⟩,
                     ⟨(some 197), .bin .mul (.t 195) (.t 196), none, [], false⟩,
                     ⟨(some 198), .bin .add (.t 194) (.t 197), none, [], false⟩,
                     ⟨(some 199), .call (.k (.fn 55 [])) [(.t 198), (.k (.int .i64 256))], none, [], false⟩,
                     ⟨(some 200), .bin .add (.t 199) (.k (.int .i64 2)), none, [], false⟩,
                     ⟨(some 201), .fad 13 (.t 15), none, [], false⟩,
                     ⟨none, .st 1 (.t 201) (.t 200), none, [], false⟩])
                   (.seq (.reg [
                      ⟨(some 202), .mv (.t 17), none, [], false⟩,
                      ⟨(some 203), .fad 3 (.t 6), none, [], false⟩,
                      ⟨(some 204), .ld1 (.t 203), none, [], false⟩,
                      ⟨(some 205), .fad 14 (.t 5), none, [], false⟩,
                      ⟨(some 206), .fad 3 (.t 205), none, [], false⟩,
                      ⟨(some 207), .ld1 (.t 206), none, [], false⟩,
                      ⟨(some 208), .bin .sub (.t 204) (.t 207), none, [], false⟩,
                      ⟨(some 209), .bin .mul (.k (.int .i64 16)) (.t 208), none, [], false⟩,
                      ⟨(some 210), .mv (.t 14), none, [], false⟩,
                      ⟨(some 211), .call (.k (.fn 53 [])) [(.t 209), (.t 210)], none, [], false⟩,
                      ⟨(some 212), .call (.k (.fn 54 [])) [(.t 211), (.k (.int .i64 (-3200))), (.k (.int .i64 3200))], none, [], false⟩,
                      ⟨(some 213), .nchk (.t 202), none, [], false⟩,
                      ⟨(some 214), .fad 8 (.t 213), none, [], false⟩,
                      ⟨none, .st 1 (.t 214) (.t 212), none, [], false⟩])
                    (.seq (.reg [
                       ⟨(some 215), .mv (.t 17), none, [], false⟩,
                       ⟨(some 216), .fad 3 (.t 6), none, [], false⟩,
                       ⟨(some 217), .ld1 (.t 216), none, [], false⟩,
                       ⟨(some 218), .nchk (.t 215), none, [], false⟩,
                       ⟨(some 219), .fad 7 (.t 218), none, [], false⟩,
                       ⟨none, .st 1 (.t 219) (.t 217), none, [], false⟩])
                     (.seq (.seq (.reg [
                         ⟨(some 220), .fad 4 (.t 6), none, [], false⟩,
                         ⟨(some 221), .ld1 (.t 220), none, [], false⟩,
                         ⟨(some 222), .bin .geq (.t 221) (.k (.int .i64 0)), none, [], false⟩])
                       (.cond (.t 222) (.reg [
                          ⟨(some 223), .mv (.t 17), none, [], false⟩,
                          ⟨(some 224), .fad 4 (.t 6), none, [], false⟩,
                          ⟨(some 225), .ld1 (.t 224), none, [], false⟩,
                          ⟨(some 226), .nchk (.t 223), none, [], false⟩,
                          ⟨(some 227), .fad 10 (.t 226), none, [], false⟩,
                          ⟨none, .st 1 (.t 227) (.t 225), none, [], false⟩])
                        (.skip)))
                      (.seq (.reg [
                         ⟨(some 228), .mv (.t 17), none, [], false⟩,
                         ⟨(some 229), .nchk (.t 228), none, [], false⟩,
                         ⟨(some 230), .fad 11 (.t 229), none, [], false⟩,
                         ⟨(some 231), .ld1 (.t 230), none, [], false⟩,
                         ⟨(some 232), .bin .add (.t 231) (.k (.int .i64 1)), none, [], false⟩,
                         ⟨(some 233), .nchk (.t 228), none, [], false⟩,
                         ⟨(some 234), .fad 11 (.t 233), none, [], false⟩,
                         ⟨none, .st 1 (.t 234) (.t 232), none, [], false⟩])
                       (.seq (.reg [
                          ⟨(some 235), .mv (.t 17), none, [], false⟩,
                          ⟨(some 236), .nchk (.t 235), none, [], false⟩,
                          ⟨(some 237), .fad 12 (.t 236), none, [], false⟩,
                          ⟨none, .st 1 (.t 237) (.k (.int .i64 0)), none, [], false⟩])
                        (.seq (.reg [
                           ⟨(some 238), .ldn 6 (.t 6), none, [], false⟩,
                           ⟨(some 239), .fad 14 (.t 15), none, [], false⟩,
                           ⟨none, .st 6 (.t 239) (.t 238), none, [], false⟩])
                         (.seq (.seq (.reg [
                             ⟨(some 240), .ldn 20 (.t 15), none, [], false⟩,
                             ⟨(some 241), .call (.k (.fn 52 [])) [(.t 240)], none, [], false⟩,
                             ⟨(some 242), .bin .neq (.t 241) (.k (.int .i64 0)), none, [], false⟩])
                           (.cond (.t 242) (.seq (.reg [
                               ⟨(some 243), .mk [.int .i64 0, .int .i64 0, .int .i64 0, .int .i64 0, .int .i64 0, .int .i64 0, .int .i64 0, .int .i64 0, .int .i64 0, .int .i64 0, .int .i64 0, .int .i64 0, .int .i64 0, .int .i64 0, .int .i64 0, .int .i64 0, .int .i64 0, .int .i64 0, .int .i64 0, .int .i64 0] [], none, [], false⟩,
                               ⟨none, .st 20 (.t 10) (.t 243), none, [], false⟩,
                               ⟨(some 11), .mv (.k (.int .i64 8)), none, [], false⟩])
                             (.ret))
                            (.skip)))
                          (.seq (.reg [
                             ⟨(some 244), .ldn 20 (.t 15), none, [], false⟩,
                             ⟨none, .st 20 (.t 10) (.t 244), none, [], false⟩,
                             ⟨(some 11), .mv (.k (.int .i64 0)), none, [], false⟩])
                           (.ret))))))))))))))))))))))))
/-- skyway/skywaykeep2.FilterGains -/
def c8 : CF where
  np := 3
  nt := 97
  res := [.t 6]
  code := .seq (.reg [
      ⟨(some 3), .box (.t 0), none, [], false⟩,
      ⟨(some 4), .box (.t 1), none, [], false⟩,
      ⟨(some 6), .mv (.k (.bool false)), none, [], false⟩])
    (.seq (.seq (.reg [
        ⟨(some 13), .call (.k (.fn 28 [])) [], none, [], false⟩,
        ⟨(some 14), .un .not (.t 13), none, [], false⟩])
      (.cond (.t 14) (.seq (.reg [
          ⟨(some 6), .mv (.k (.bool false)), none, [], false⟩])
        (.ret))
       (.skip)))
     (.seq (.reg [
        ⟨(some 16), .ldn 20 (.t 3), none, [], false⟩,
        ⟨(some 17), .ldn 6 (.t 4), none, [], false⟩,
        ⟨(some 18), .mv (.t 2), none, [], false⟩,
        ⟨(some 19), .call (.k (.fn 29 [])) [(.t 16), (.t 17), (.t 18), (.k (.int .i64 256)), (.k (.int .i64 256))], none, [], false⟩,
        ⟨(some 15), .mv (.t 19), none, [], false⟩,
        ⟨(some 20), .ext (.t 15) 0, none, [], false⟩,
        ⟨(some 21), .ext (.t 15) 1, none, [], false⟩,
        ⟨(some 7), .new [.int .i64 0, .int .i64 0, .int .i64 0, .int .i64 0, .int .i64 0, .int .i64 0, .int .i64 0, .int .i64 0, .int .i64 0, .int .i64 0, .int .i64 0, .int .i64 0, .int .i64 0, .int .i64 0, .int .i64 0, .int .i64 0, .int .i64 0, .int .i64 0, .int .i64 0, .int .i64 0], none, [], false⟩,
        ⟨none, .st 20 (.t 7) (.t 20), none, [], false⟩,
        ⟨(some 8), .mv (.t 21), none, [], false⟩])
      (.seq (.reg [
         ⟨(some 23), .ldn 20 (.t 3), none, [], false⟩,
         ⟨(some 24), .ldn 6 (.t 4), none, [], false⟩,
         ⟨(some 25), .mv (.t 2), none, [], false⟩,
         ⟨(some 26), .call (.k (.fn 29 [])) [(.t 23), (.t 24), (.t 25), (.k (.int .i64 0)), (.k (.int .i64 0))], none, [], false⟩,
         ⟨(some 22), .mv (.t 26), none, [], false⟩,
         ⟨(some 27), .ext (.t 22) 0, none, [], false⟩,
         ⟨(some 28), .ext (.t 22) 1, none, [], false⟩,
         ⟨(some 9), .new [.int .i64 0, .int .i64 0, .int .i64 0, .int .i64 0, .int .i64 0, .int .i64 0, .int .i64 0, .int .i64 0, .int .i64 0, .int .i64 0, .int .i64 0, .int .i64 0, .int .i64 0, .int .i64 0, .int .i64 0, .int .i64 0, .int .i64 0, .int .i64 0, .int .i64 0, .int .i64 0], none, [], false⟩,
         ⟨none, .st 20 (.t 9) (.t 27), none, [], false⟩,
         ⟨(some 10), .mv (.t 28), none, [], false⟩])
       (.seq (.reg [
          ⟨(some 30), .ldn 20 (.t 3), none, [], false⟩,
          ⟨(some 31), .fad 0 (.t 4), none, [], false⟩,
          ⟨(some 32), .ld1 (.t 31), none, [], false⟩,
          ⟨(some 33), .mv (.t 2), none, [], false⟩,
          ⟨(some 34), .call (.k (.fn 27 [])) [(.t 30), (.t 32), (.t 33)], none, [], false⟩,
          ⟨(some 29), .mv (.t 34), none, [], false⟩,
          ⟨(some 35), .ext (.t 29) 0, none, [], false⟩,
          ⟨(some 36), .ext (.t 29) 1, none, [], false⟩,
          ⟨(some 11), .new [.int .i64 0, .int .i64 0, .int .i64 0, .int .i64 0, .int .i64 0, .int .i64 0, .int .i64 0, .int .i64 0, .int .i64 0, .int .i64 0, .int .i64 0, .int .i64 0, .int .i64 0, .int .i64 0, .int .i64 0, .int .i64 0, .int .i64 0, .int .i64 0, .int .i64 0, .int .i64 0], none, [], false⟩,
          ⟨none, .st 20 (.t 11) (.t 35), none, [], false⟩,
          ⟨(some 12), .mv (.t 36), none, [], false⟩])
        (.seq (.seq (.reg [
            ⟨(some 37), .mv (.t 8), none, [], false⟩,
            ⟨(some 38), .bin .neq (.t 37) (.k (.int .i64 0)), none, [], false⟩,
            ⟨(some 39), .mv (.t 38), none, [], false⟩,
            ⟨(some 40), .mv (.t 10), (some (39, false)), [], false⟩,
            ⟨(some 41), .bin .neq (.t 40) (.k (.int .i64 0)), (some (39, false)), [], false⟩,
            ⟨(some 42), .pick (.t 39) (.k (.bool true)) (.t 41), none, [], false⟩])
          (.cond (.t 42) (.seq (.reg [
              ⟨(some 43), .ldn 20 (.t 7), none, [], false⟩,
              ⟨(some 44), .mk [.int .i64 0, .int .i64 0, .int .i64 0, .int .i64 0, .int .i64 0, .int .i64 0, .int .i64 0, .int .i64 0, .int .i64 0, .int .i64 0, .int .i64 0, .int .i64 0, .int .i64 0, .int .i64 0, .int .i64 0, .int .i64 0, .int .i64 0, .int .i64 0, .int .i64 0, .int .i64 0] [], none, [], false⟩,
              ⟨(some 45), .eqs false (some [.i, .i, .i, .i, .i, .i, .i, .i, .i, .i, .i, .i, .i, .i, .i, .i, .i, .i, .i, .i]) (.t 43) (.t 44), none, [], false⟩,
              ⟨(some 46), .mv (.t 45), none, [], false⟩,
              ⟨(some 47), .ldn 20 (.t 9), (some (46, false)), [], false⟩,
              ⟨(some 48), .mk [.int .i64 0, .int .i64 0, .int .i64 0, .int .i64 0, .int .i64 0, .int .i64 0, .int .i64 0, .int .i64 0, .int .i64 0, .int .i64 0, .int .i64 0, .int .i64 0, .int .i64 0, .int .i64 0, .int .i64 0, .int .i64 0, .int .i64 0, .int .i64 0, .int .i64 0, .int .i64 0] [], (some (46, false)), [], false⟩,
              ⟨(some 49), .eqs false (some [.i, .i, .i, .i, .i, .i, .i, .i, .i, .i, .i, .i, .i, .i, .i, .i, .i, .i, .i, .i]) (.t 47) (.t 48), (some (46, false)), [], false⟩,
              ⟨(some 50), .pick (.t 46) (.k (.bool true)) (.t 49), none, [], false⟩,
              ⟨(some 6), .mv (.t 50), none, [], false⟩])
            (.ret))
           (.skip)))
         (.seq (.reg [
            ⟨(some 51), .mv (.t 12), none, [], false⟩,
            ⟨(some 52), .bin .eql (.t 51) (.k (.int .i64 0)), none, [], false⟩,
            ⟨(some 53), .mv (.t 52), none, [], false⟩,
            ⟨(some 54), .fad 0 (.t 7), (some (53, true)), [], false⟩,
            ⟨(some 55), .fad 3 (.t 54), (some (53, true)), [], false⟩,
            ⟨(some 56), .ldn 2 (.t 55), (some (53, true)), [], false⟩,
            ⟨(some 57), .fad 1 (.t 4), (some (53, true)), [], false⟩,
            ⟨(some 58), .ldn 2 (.t 57), (some (53, true)), [], false⟩,
            ⟨(some 59), .eqs false (some [.i, .i]) (.t 56) (.t 58), (some (53, true)), [], false⟩,
            ⟨(some 60), .pick (.t 53) (.t 59) (.k (.bool false)), none, [], false⟩,
            ⟨(some 61), .mv (.t 60), none, [], false⟩,
            ⟨(some 62), .fad 0 (.t 7), (some (61, true)), [], false⟩,
            ⟨(some 63), .fad 9 (.t 62), (some (61, true)), [], false⟩,
            ⟨(some 64), .ld1 (.t 63), (some (61, true)), [], false⟩,
            ⟨(some 65), .fad 5 (.t 4), (some (61, true)), [], false⟩,
            ⟨(some 66), .ld1 (.t 65), (some (61, true)), [], false⟩,
            ⟨(some 67), .bin .add (.t 66) (.k (.int .i64 2)), (some (61, true)), [], false⟩,
            ⟨(some 68), .bin .eql (.t 64) (.t 67), (some (61, true)), [], false⟩,
            ⟨(some 69), .pick (.t 61) (.t 68) (.k (.bool false)), none, [], false⟩,
            ⟨(some 70), .mv (.t 69), none, [], false⟩,
            ⟨(some 71), .fad 0 (.t 9), (some (70, true)), [], false⟩,
            ⟨(some 72), .fad 3 (.t 71), (some (70, true)), [], false⟩,
            ⟨(some 73), .ldn 2 (.t 72), (some (70, true)), [], false⟩,
            ⟨(some 74), .fad 0 (.t 11), (some (70, true)), [], false⟩,
            ⟨(some 75), .fad 3 (.t 74), (some (70, true)), [], false⟩,
            ⟨(some 76), .ldn 2 (.t 75), (some (70, true)), [], false⟩,
            ⟨(some 77), .eqs false (some [.i, .i]) (.t 73) (.t 76), (some (70, true)), [], false⟩,
            ⟨(some 78), .pick (.t 70) (.t 77) (.k (.bool false)), none, [], false⟩,
            ⟨(some 79), .mv (.t 78), none, [], false⟩,
            ⟨(some 80), .fad 0 (.t 9), (some (79, true)), [], false⟩,
            ⟨(some 81), .fad 5 (.t 80), (some (79, true)), [], false⟩,
            ⟨(some 82), .ldn 2 (.t 81), (some (79, true)), [], false⟩,
            ⟨(some 83), .fad 0 (.t 11), (some (79, true)), [], false⟩,
            ⟨(some 84), .fad 5 (.t 83), (some (79, true)), [], false⟩,
            ⟨(some 85), .ldn 2 (.t 84), (some (79, true)), [], false⟩,
            ⟨(some 86), .eqs false (some [.i, .i]) (.t 82) (.t 85), (some (79, true)), [], false⟩,
            ⟨(some 87), .pick (.t 79) (.t 86) (.k (.bool false)), none, [], false⟩,
            ⟨(some 88), .mv (.t 87), none, [], false⟩,
            ⟨(some 89), .fad 0 (.t 7), (some (88, true)), [], false⟩,
            ⟨(some 90), .fad 11 (.t 89), (some (88, true)), [], false⟩,
            ⟨(some 91), .ld1 (.t 90), (some (88, true)), [], false⟩,
            ⟨(some 92), .fad 0 (.t 9), (some (88, true)), [], false⟩,
            ⟨(some 93), .fad 11 (.t 92), (some (88, true)), [], false⟩,
            ⟨(some 94), .ld1 (.t 93), (some (88, true)), [], false⟩,
            ⟨(some 95), .bin .eql (.t 91) (.t 94), (some (88, true)), [], false⟩,
            ⟨(some 96), .pick (.t 88) (.t 95) (.k (.bool false)), none, [], false⟩,
            ⟨(some 6), .mv (.t 96), none, [], false⟩])
          (.ret)))))))
/-- skyway/skywaykeep2.course -/
def c30 : CF where
  np := 5
  nt := 107
  res := [.t 10]
  code := .seq (.reg [
      ⟨(some 5), .box (.t 0), none, [], false⟩,
      ⟨(some 6), .box (.t 1), none, [], false⟩,
      ⟨(some 10), .mv (.k (.sl true 0 0 0 0 0)), none, [], false⟩])
    (.seq (.reg [
       ⟨(some 14), .fad 0 (.t 5), none, [], false⟩,
       ⟨(some 15), .ld1 (.t 14), none, [], false⟩,
       ⟨(some 17), .fad 1 (.t 5), none, [], false⟩,
       ⟨(some 18), .ld1 (.t 17), none, [], false⟩,
       ⟨(some 16), .call (.k (.fn 16 [])) [(.t 15), (.k (.int .i64 (-100000))), (.k (.int .i64 100000))], none, [], true⟩,
       ⟨(some 19), .call (.k (.fn 16 [])) [(.t 18), (.k (.int .i64 (-100000))), (.k (.int .i64 100000))], none, [], false⟩,
       ⟨(some 20), .mk [.int .i64 0, .int .i64 0] [(0, 1, (.t 16)), (1, 1, (.t 19))], none, [], false⟩,
       ⟨none, .st 2 (.t 5) (.t 20), none, [], false⟩])
     (.seq (.reg [
        ⟨(some 21), .fad 0 (.t 6), none, [], false⟩,
        ⟨(some 22), .ld1 (.t 21), none, [], false⟩,
        ⟨(some 24), .fad 1 (.t 6), none, [], false⟩,
        ⟨(some 25), .ld1 (.t 24), none, [], false⟩,
        ⟨(some 23), .call (.k (.fn 16 [])) [(.t 22), (.k (.int .i64 (-200))), (.k (.int .i64 200))], none, [], true⟩,
        ⟨(some 26), .call (.k (.fn 16 [])) [(.t 25), (.k (.int .i64 (-200))), (.k (.int .i64 200))], none, [], false⟩,
        ⟨(some 27), .mk [.int .i64 0, .int .i64 0] [(0, 1, (.t 23)), (1, 1, (.t 26))], none, [], false⟩,
        ⟨none, .st 2 (.t 6) (.t 27), none, [], false⟩])
      (.seq (.reg [
         ⟨(some 28), .ldn 2 (.t 5), none, [], false⟩,
         ⟨(some 29), .mks [.int .i64 0, .int .i64 0] 2 1 [(0, 2, (.t 28))], none, [], false⟩,
         ⟨(some 11), .mv (.t 29), none, [], false⟩])
       (.seq (.seq (.reg [
           ⟨(some 30), .mv (.t 4), none, [], false⟩,
           ⟨(some 31), .mv (.k (.int .i64 0)), none, [], false⟩])
         (.blk 0 (.loop (.seq (.reg [
              ⟨(some 32), .bin .lss (.t 31) (.t 30), none, [], false⟩])
            (.seq (.cond (.t 32) (.skip)
              (.exit 0))
             (.seq (.blk 1 (.seq (.reg [
                  ⟨(some 33), .mv (.t 31), none, [], false⟩,
                  ⟨(some 12), .mv (.t 33), none, [], false⟩])
                (.seq (.reg [
                   ⟨(some 34), .fad 0 (.t 5), none, [], false⟩,
                   ⟨(some 35), .ld1 (.t 34), none, [], false⟩,
                   ⟨(some 36), .fad 0 (.t 6), none, [], false⟩,
                   ⟨(some 37), .ld1 (.t 36), none, [], false⟩,
                   ⟨(some 38), .bin .add (.t 35) (.t 37), none, [], false⟩,
                   ⟨(some 39), .fad 1 (.t 5), none, [], false⟩,
                   ⟨(some 40), .ld1 (.t 39), none, [], false⟩,
                   ⟨(some 41), .fad 1 (.t 6), none, [], false⟩,
                   ⟨(some 42), .ld1 (.t 41), none, [], false⟩,
                   ⟨(some 43), .bin .add (.t 40) (.t 42), none, [], false⟩,
                   ⟨(some 44), .mk [.int .i64 0, .int .i64 0] [(0, 1, (.t 38)), (1, 1, (.t 43))], none, [], false⟩,
                   ⟨none, .st 2 (.t 5) (.t 44), none, [], false⟩])
                 (.seq (.reg [
                    ⟨(some 45), .mv (.t 11), none, [], false⟩,
                    ⟨(some 46), .ldn 2 (.t 5), none, [], false⟩,
                    ⟨(some 47), .mks [.int .i64 0, .int .i64 0] 2 1 [(0, 2, (.t 46))], none, [], false⟩,
                    ⟨(some 48), .app 2 16 (.t 45) (.t 47), none, [], false⟩,
                    ⟨(some 11), .mv (.t 48), none, [], false⟩])
                  (.seq (.seq (.reg [
                      ⟨(some 49), .mv (.t 12), none, [], false⟩,
                      ⟨(some 50), .mv (.t 2), none, [], false⟩,
                      ⟨(some 51), .lenv false (.t 50), none, [], false⟩,
                      ⟨(some 52), .bin .geq (.t 49) (.t 51), none, [], false⟩])
                    (.cond (.t 52) (.exit 1)
                     (.skip)))
                   (.seq (.reg [
                      ⟨(some 53), .mv (.t 2), none, [], false⟩,
                      ⟨(some 54), .mv (.t 12), none, [], false⟩,
                      ⟨(some 55), .iad 1 (.t 53) (.t 54), none, [], false⟩,
                      ⟨(some 56), .ld1 (.t 55), none, [], false⟩,
                      ⟨(some 57), .mv (.t 3), none, [], false⟩,
                      ⟨(some 58), .un .neg (.t 57), none, [], false⟩,
                      ⟨(some 59), .mv (.t 3), none, [], false⟩,
                      ⟨(some 60), .call (.k (.fn 16 [])) [(.t 56), (.t 58), (.t 59)], none, [], false⟩,
                      ⟨(some 13), .mv (.t 60), none, [], false⟩])
                    (.seq (.seq (.reg [
                        ⟨(some 61), .mv (.t 12), none, [], false⟩,
                        ⟨(some 62), .bin .rem (.t 61) (.k (.int .i64 2)), none, [], false⟩,
                        ⟨(some 63), .bin .eql (.t 62) (.k (.int .i64 0)), none, [], false⟩,
                        ⟨(some 64), .mv (.t 63), none, [], false⟩,
                        ⟨(some 65), .fad 0 (.t 6), (some (64, true)), [], false⟩,
                        ⟨(some 66), .ld1 (.t 65), (some (64, true)), [], false⟩,
                        ⟨(some 67), .mv (.t 13), (some (64, true)), [], false⟩,
                        ⟨(some 68), .bin .add (.t 66) (.t 67), (some (64, true)), [], false⟩,
                        ⟨(some 69), .bin .geq (.t 68) (.k (.int .i64 (-200))), (some (64, true)), [], false⟩,
                        ⟨(some 70), .pick (.t 64) (.t 69) (.k (.bool false)), none, [], false⟩,
                        ⟨(some 71), .mv (.t 70), none, [], false⟩,
                        ⟨(some 72), .fad 0 (.t 6), (some (71, true)), [], false⟩,
                        ⟨(some 73), .ld1 (.t 72), (some (71, true)), [], false⟩,
                        ⟨(some 74), .mv (.t 13), (some (71, true)), [], false⟩,
                        ⟨(some 75), .bin .add (.t 73) (.t 74), (some (71, true)), [], false⟩,
                        ⟨(some 76), .bin .leq (.t 75) (.k (.int .i64 200)), (some (71, true)), [], false⟩,
                        ⟨(some 77), .pick (.t 71) (.t 76) (.k (.bool false)), none, [], false⟩])
                      (.cond (.t 77) (.reg [
                         ⟨(some 78), .fad 0 (.t 6), none, [], false⟩,
                         ⟨(some 79), .ld1 (.t 78), none, [], false⟩,
                         ⟨(some 80), .mv (.t 13), none, [], false⟩,
                         ⟨(some 81), .bin .add (.t 79) (.t 80), none, [], false⟩,
                         ⟨(some 82), .fad 0 (.t 6), none, [], false⟩,
                         ⟨none, .st 1 (.t 82) (.t 81), none, [], false⟩])
                       (.skip)))
                     (.seq (.reg [
                        ⟨(some 83), .mv (.t 12), none, [], false⟩,
                        ⟨(some 84), .bin .rem (.t 83) (.k (.int .i64 2)), none, [], false⟩,
                        ⟨(some 85), .bin .eql (.t 84) (.k (.int .i64 1)), none, [], false⟩,
                        ⟨(some 86), .mv (.t 85), none, [], false⟩,
                        ⟨(some 87), .fad 1 (.t 6), (some (86, true)), [], false⟩,
                        ⟨(some 88), .ld1 (.t 87), (some (86, true)), [], false⟩,
                        ⟨(some 89), .mv (.t 13), (some (86, true)), [], false⟩,
                        ⟨(some 90), .bin .add (.t 88) (.t 89), (some (86, true)), [], false⟩,
                        ⟨(some 91), .bin .geq (.t 90) (.k (.int .i64 (-200))), (some (86, true)), [], false⟩,
                        ⟨(some 92), .pick (.t 86) (.t 91) (.k (.bool false)), none, [], false⟩,
                        ⟨(some 93), .mv (.t 92), none, [], false⟩,
                        ⟨(some 94), .fad 1 (.t 6), (some (93, true)), [], false⟩,
                        ⟨(some 95), .ld1 (.t 94), (some (93, true)), [], false⟩,
                        ⟨(some 96), .mv (.t 13), (some (93, true)), [], false⟩,
                        ⟨(some 97), .bin .add (.t 95) (.t 96), (some (93, true)), [], false⟩,
                        ⟨(some 98), .bin .leq (.t 97) (.k (.int .i64 200)), (some (93, true)), [], false⟩,
                        ⟨(some 99), .pick (.t 93) (.t 98) (.k (.bool false)), none, [], false⟩])
                      (.cond (.t 99) (.reg [
                         ⟨(some 100), .fad 1 (.t 6), none, [], false⟩,
                         ⟨(some 101), .ld1 (.t 100), none, [], false⟩,
                         ⟨(some 102), .mv (.t 13), none, [], false⟩,
                         ⟨(some 103), .bin .add (.t 101) (.t 102), none, [], false⟩,
                         ⟨(some 104), .fad 1 (.t 6), none, [], false⟩,
                         ⟨none, .st 1 (.t 104) (.t 103), none, [], false⟩])
                       (.skip))))))))))
              (.reg [
                ⟨(some 105), .bin .add (.t 31) (.k (.int .i64 1)), none, [], false⟩,
                ⟨(some 31), .mv (.t 105), none, [], false⟩])))))))
        (.seq (.reg [
           ⟨(some 106), .mv (.t 11), none, [], false⟩,
           ⟨(some 10), .mv (.t 106), none, [], false⟩])
         (.ret))))))
/-- skyway/skywaykeep2.spotAt -/
def c60 : CF where
  np := 5
  nt := 35
  res := [.cn 6 10]
  code := .seq (.reg [
      ⟨(some 6), .box (.t 1), none, [], false⟩,
      ⟨(some 10), .new [.int .i64 0, .int .i64 0, .int .i64 0, .int .i64 0, .int .i64 0, .int .i64 0], none, [], false⟩])
    (.seq (.reg [
       ⟨(some 11), .mv (.t 0), none, [], false⟩,
       ⟨(some 12), .fad 0 (.t 6), none, [], false⟩,
       ⟨(some 13), .ld1 (.t 12), none, [], false⟩,
       ⟨(some 14), .mv (.t 3), none, [], false⟩,
       ⟨(some 15), .mv (.t 2), none, [], false⟩,
       ⟨(some 16), .un .neg (.t 15), none, [], false⟩,
       ⟨(some 17), .bin .quo (.t 16) (.k (.int .i64 2)), none, [], false⟩,
       ⟨(some 18), .mv (.t 2), none, [], false⟩,
       ⟨(some 19), .bin .quo (.t 18) (.k (.int .i64 2)), none, [], false⟩,
       ⟨(some 22), .fad 1 (.t 6), none, [], false⟩,
       ⟨(some 23), .ld1 (.t 22), none, [], false⟩,
       ⟨(some 24), .mv (.t 4), none, [], false⟩,
       ⟨(some 25), .mv (.t 2), none, [], false⟩,
       ⟨(some 26), .un .neg (.t 25), none, [], false⟩,
       ⟨(some 27), .bin .quo (.t 26) (.k (.int .i64 2)), none, [], false⟩,
       ⟨(some 28), .mv (.t 2), none, [], false⟩,
       ⟨(some 29), .bin .quo (.t 28) (.k (.int .i64 2)), none, [], false⟩,
       ⟨(some 33), .mv (.t 2), none, [], false⟩,
       ⟨(some 20), .call (.k (.fn 16 [])) [(.t 14), (.t 17), (.t 19)], none, [], true⟩,
       ⟨(some 21), .bin .add (.t 13) (.t 20), none, [], false⟩,
       ⟨(some 30), .call (.k (.fn 16 [])) [(.t 24), (.t 27), (.t 29)], none, [], true⟩,
       ⟨(some 31), .bin .add (.t 23) (.t 30), none, [], false⟩,
       ⟨(some 32), .mk [.int .i64 0, .int .i64 0] [(0, 1, (.t 21)), (1, 1, (.t 31))], none, [], false⟩,
       ⟨(some 34), .mk [.int .i64 0, .int .i64 0, .int .i64 0, .int .i64 0, .int .i64 0, .int .i64 0] [(0, 1, (.t 11)), (1, 2, (.t 32)), (3, 1, (.k (.int .i64 5000))), (4, 1, (.k (.int .i64 1234))), (5, 1, (.t 33))], none, [], false⟩,
       ⟨none, .st 6 (.t 10) (.t 34), none, [], false⟩])
     (.ret))
/-- skyway/skywaykeep2.follow -/
def c31 : CF where
  np := 7
  nt := 89
  res := [.cn 20 14, .t 15, .t 16]
  code := .seq (.reg [
      ⟨(some 14), .new [.int .i64 0, .int .i64 0, .int .i64 0, .int .i64 0, .int .i64 0, .int .i64 0, .int .i64 0, .int .i64 0, .int .i64 0, .int .i64 0, .int .i64 0, .int .i64 0, .int .i64 0, .int .i64 0, .int .i64 0, .int .i64 0, .int .i64 0, .int .i64 0, .int .i64 0, .int .i64 0], none, [], false⟩,
      ⟨(some 15), .mv (.k (.int .i64 0)), none, [], false⟩,
      ⟨(some 16), .mv (.k (.bool false)), none, [], false⟩])
    (.seq (.reg [
       ⟨(some 27), .mv (.t 0), none, [], false⟩,
       ⟨(some 28), .iad 2 (.t 27) (.k (.int .i64 0)), none, [], false⟩,
       ⟨(some 29), .ldn 2 (.t 28), none, [], false⟩,
       ⟨(some 30), .mv (.t 2), none, [], false⟩,
       ⟨(some 31), .call (.k (.fn 60 [])) [(.k (.int .i64 0)), (.t 29), (.t 30), (.k (.int .i64 0)), (.k (.int .i64 0))], none, [], false⟩,
       ⟨(some 32), .call (.k (.fn 56 [])) [(.t 31)], none, [], false⟩,
       ⟨(some 26), .mv (.t 32), none, [], false⟩,
       ⟨(some 33), .ext (.t 26) 0, none, [], false⟩,
       ⟨(some 34), .ext (.t 26) 1, none, [], false⟩,
       ⟨(some 17), .new [.int .i64 0, .int .i64 0, .int .i64 0, .int .i64 0, .int .i64 0, .int .i64 0, .int .i64 0, .int .i64 0, .int .i64 0, .int .i64 0, .int .i64 0, .int .i64 0, .int .i64 0, .int .i64 0, .int .i64 0, .int .i64 0, .int .i64 0, .int .i64 0, .int .i64 0, .int .i64 0], none, [], false⟩,
       ⟨none, .st 20 (.t 17) (.t 33), none, [], false⟩,
       ⟨(some 18), .mv (.t 34), none, [], false⟩])
     (.seq (.seq (.reg [
         ⟨(some 35), .mv (.t 18), none, [], false⟩,
         ⟨(some 36), .bin .neq (.t 35) (.k (.int .i64 0)), none, [], false⟩])
       (.cond (.t 36) (.seq (.reg [
           ⟨(some 37), .ldn 20 (.t 17), none, [], false⟩,
           ⟨none, .st 20 (.t 14) (.t 37), none, [], false⟩,
           ⟨(some 15), .mv (.k (.int .i64 0)), none, [], false⟩,
           ⟨(some 16), .mv (.k (.bool false)), none, [], false⟩])
         (.ret))
        (.skip)))
      (.seq (.reg [
         ⟨(some 19), .mv (.k (.int .i64 0)), none, [], false⟩])
       (.seq (.seq (.reg [
           ⟨(some 38), .mv (.t 1), none, [], false⟩,
           ⟨(some 20), .mv (.t 38), none, [], false⟩])
         (.blk 0 (.loop (.seq (.seq (.reg [
               ⟨(some 39), .mv (.t 20), none, [], false⟩,
               ⟨(some 40), .mv (.t 0), none, [], false⟩,
               ⟨(some 41), .lenv false (.t 40), none, [], false⟩,
               ⟨(some 42), .bin .lss (.t 39) (.t 41), none, [], false⟩])
             (.cond (.t 42) (.skip)
              (.exit 0)))
            (.seq (.blk 1 (.seq (.reg [
                 ⟨(some 21), .mv (.k (.int .i64 0)), none, [], false⟩,
                 ⟨(some 22), .mv (.k (.int .i64 0)), none, [], false⟩])
               (.seq (.seq (.reg [
                   ⟨(some 46), .mv (.t 20), none, [], false⟩,
                   ⟨(some 47), .mv (.t 1), none, [], false⟩,
                   ⟨(some 48), .bin .quo (.t 46) (.t 47), none, [], false⟩,
                   ⟨(some 49), .bin .mul (.t 48) (.k (.int .i64 2)), none, [], false⟩,
                   ⟨(some 23), .mv (.t 49), none, [], false⟩])
                 (.seq (.reg [
                    ⟨(some 50), .mv (.t 23), none, [], false⟩,
                    ⟨(some 51), .bin .add (.t 50) (.k (.int .i64 1)), none, [], false⟩,
                    ⟨(some 52), .mv (.t 6), none, [], false⟩,
                    ⟨(some 53), .lenv false (.t 52), none, [], false⟩,
                    ⟨(some 54), .bin .lss (.t 51) (.t 53), none, [], false⟩])
                  (.cond (.t 54) (.reg [
                     ⟨(some 55), .mv (.t 6), none, [], false⟩,
                     ⟨(some 56), .mv (.t 23), none, [], false⟩,
                     ⟨(some 57), .iad 1 (.t 55) (.t 56), none, [], false⟩,
                     ⟨(some 58), .ld1 (.t 57), none, [], false⟩,
                     ⟨(some 59), .mv (.t 6), none, [], false⟩,
                     ⟨(some 60), .mv (.t 23), none, [], false⟩,
                     ⟨(some 61), .bin .add (.t 60) (.k (.int .i64 1)), none, [], false⟩,
                     ⟨(some 62), .iad 1 (.t 59) (.t 61), none, [], false⟩,
                     ⟨(some 63), .ld1 (.t 62), none, [], false⟩,
                     ⟨(some 21), .mv (.t 58), none, [], false⟩,
                     ⟨(some 22), .mv (.t 63), none, [], false⟩])
                   (.skip))))
                (.seq (.reg [
                   ⟨(some 65), .ldn 20 (.t 17), none, [], false⟩,
                   ⟨(some 66), .mv (.t 20), none, [], false⟩,
                   ⟨(some 67), .mv (.t 0), none, [], false⟩,
                   ⟨(some 68), .mv (.t 20), none, [], false⟩,
                   ⟨(some 69), .iad 2 (.t 67) (.t 68), none, [], false⟩,
                   ⟨(some 70), .ldn 2 (.t 69), none, [], false⟩,
                   ⟨(some 71), .mv (.t 2), none, [], false⟩,
                   ⟨(some 72), .mv (.t 21), none, [], false⟩,
                   ⟨(some 73), .mv (.t 22), none, [], false⟩,
                   ⟨(some 75), .mv (.t 3), none, [], false⟩,
                   ⟨(some 76), .mv (.t 4), none, [], false⟩,
                   ⟨(some 77), .mv (.t 5), none, [], false⟩,
                   ⟨(some 24), .new [.int .i64 0, .int .i64 0, .int .i64 0, .int .i64 0, .int .i64 0, .int .i64 0, .int .i64 0, .int .i64 0, .int .i64 0, .int .i64 0, .int .i64 0, .int .i64 0, .int .i64 0, .int .i64 0, .int .i64 0, .int .i64 0, .int .i64 0, .int .i64 0, .int .i64 0, .int .i64 0], none, [], false⟩,
                   ⟨(some 74), .call (.k (.fn 60 [])) [(.t 66), (.t 70), (.t 71), (.t 72), (.t 73)], none, [], true⟩,
                   ⟨(some 78), .call (.k (.fn 29 [])) [(.t 65), (.t 74), (.t 75), (.t 76), (.t 77)], none, [], false⟩,
                   ⟨(some 64), .mv (.t 78), none, [], false⟩,
                   ⟨(some 79), .ext (.t 64) 0, none, [], false⟩,
                   ⟨(some 80), .ext (.t 64) 1, none, [], false⟩,
                   ⟨none, .st 20 (.t 24) (.t 79), none, [], false⟩,
                   ⟨(some 25), .mv (.t 80), none, [], false⟩])
                 (.seq (.seq (.reg [
                     ⟨(some 81), .mv (.t 25), none, [], false⟩,
                     ⟨(some 82), .bin .neq (.t 81) (.k (.int .i64 0)), none, [], false⟩])
                   (.cond (.t 82) (.seq (.reg [
                       ⟨(some 83), .ldn 20 (.t 17), none, [], false⟩,
                       ⟨(some 84), .mv (.t 19), none, [], false⟩,
                       ⟨none, .st 20 (.t 14) (.t 83), none, [], false⟩,
                       ⟨(some 15), .mv (.t 84), none, [], false⟩,
                       ⟨(some 16), .mv (.k (.bool false)), none, [], false⟩])
                     (.ret))
                    (.skip)))
                  (.reg [
                    ⟨(some 85), .ldn 20 (.t 24), none, [], false⟩,
                    ⟨(some 86), .mv (.t 20), none, [], false⟩,
                    ⟨none, .st 20 (.t 17) (.t 85), none, [], false⟩,
                    ⟨(some 19), .mv (.t 86), none, [], false⟩]))))))
             (.reg [
               ⟨(some 43), .mv (.t 20), none, [], false⟩,
               ⟨(some 44), .mv (.t 1), none, [], false⟩,
               ⟨(some 45), .bin .add (.t 43) (.t 44), none, [], false⟩,
               ⟨(some 20), .mv (.t 45), none, [], false⟩]))))))
        (.seq (.reg [
           ⟨(some 87), .ldn 20 (.t 17), none, [], false⟩,
           ⟨(some 88), .mv (.t 19), none, [], false⟩,
           ⟨none, .st 20 (.t 14) (.t 87), none, [], false⟩,
           ⟨(some 15), .mv (.t 88), none, [], false⟩,
           ⟨(some 16), .mv (.k (.bool true)), none, [], false⟩])
         (.ret))))))
/-- skyway/filter.Contains -/
def c32 : CF where
  np := 2
  nt := 43
  res := [.t 4, .t 5]
  code := .seq (.reg [
      ⟨(some 2), .box (.t 0), none, [], false⟩,
      ⟨(some 3), .box (.t 1), none, [], false⟩,
      ⟨(some 4), .mv (.k (.bool false)), none, [], false⟩,
      ⟨(some 5), .mv (.k (.int .i64 0)), none, [], false⟩])
    (.seq (.seq (.reg [
        ⟨(some 7), .ldn 20 (.t 2), none, [], false⟩,
        ⟨(some 8), .call (.k (.fn 52 [])) [(.t 7)], none, [], false⟩,
        ⟨(some 6), .mv (.t 8), none, [], false⟩])
      (.seq (.reg [
         ⟨(some 9), .mv (.t 6), none, [], false⟩,
         ⟨(some 10), .bin .neq (.t 9) (.k (.int .i64 0)), none, [], false⟩])
       (.cond (.t 10) (.seq (.reg [
           ⟨(some 11), .mv (.t 6), none, [], false⟩,
           ⟨(some 4), .mv (.k (.bool false)), none, [], false⟩,
           ⟨(some 5), .mv (.t 11), none, [], false⟩])
         (.ret))
        (.skip))))
     (.seq (.seq (.reg [
         ⟨(some 12), .fad 0 (.t 3), none, [], false⟩,
         ⟨(some 13), .ld1 (.t 12), none, [], false⟩,
         ⟨(some 14), .bin .lss (.t 13) (.k (.int .i64 (-1000000))), none, [], false⟩,
         ⟨(some 15), .mv (.t 14), none, [], false⟩,
         ⟨(some 16), .fad 0 (.t 3), (some (15, false)), [], false⟩,
         ⟨(some 17), .ld1 (.t 16), (some (15, false)), [], false⟩,
         ⟨(some 18), .bin .gtr (.t 17) (.k (.int .i64 1000000)), (some (15, false)), [], false⟩,
         ⟨(some 19), .pick (.t 15) (.k (.bool true)) (.t 18), none, [], false⟩,
         ⟨(some 20), .mv (.t 19), none, [], false⟩,
         ⟨(some 21), .fad 1 (.t 3), (some (20, false)), [], false⟩,
         ⟨(some 22), .ld1 (.t 21), (some (20, false)), [], false⟩,
         ⟨(some 23), .bin .lss (.t 22) (.k (.int .i64 (-1000000))), (some (20, false)), [], false⟩,
         ⟨(some 24), .pick (.t 20) (.k (.bool true)) (.t 23), none, [], false⟩,
         ⟨(some 25), .mv (.t 24), none, [], false⟩,
         ⟨(some 26), .fad 1 (.t 3), (some (25, false)), [], false⟩,
         ⟨(some 27), .ld1 (.t 26), (some (25, false)), [], false⟩,
         ⟨(some 28), .bin .gtr (.t 27) (.k (.int .i64 1000000)), (some (25, false)), [], false⟩,
         ⟨(some 29), .pick (.t 25) (.k (.bool true)) (.t 28), none, [], false⟩])
       (.cond (.t 29) (.seq (.reg [
           ⟨(some 4), .mv (.k (.bool false)), none, [], false⟩,
           ⟨(some 5), .mv (.k (.int .i64 4)), none, [], false⟩])
         (.ret))
        (.skip)))
      (.seq (.reg [
         ⟨(some 30), .fad 0 (.t 2), none, [], false⟩,
         ⟨(some 31), .fad 3 (.t 30), none, [], false⟩,
         ⟨(some 32), .ldn 2 (.t 31), none, [], false⟩,
         ⟨(some 33), .ldn 2 (.t 3), none, [], false⟩,
         ⟨(some 35), .fad 0 (.t 2), none, [], false⟩,
         ⟨(some 36), .fad 9 (.t 35), none, [], false⟩,
         ⟨(some 37), .ld1 (.t 36), none, [], false⟩,
         ⟨(some 38), .fad 0 (.t 2), none, [], false⟩,
         ⟨(some 39), .fad 9 (.t 38), none, [], false⟩,
         ⟨(some 40), .ld1 (.t 39), none, [], false⟩,
         ⟨(some 41), .bin .mul (.t 37) (.t 40), none, [], false⟩,
         ⟨(some 34), .call (.k (.fn 58 [])) [(.t 32), (.t 33)], none, [], true⟩,
         ⟨(some 42), .bin .leq (.t 34) (.t 41), none, [], false⟩,
         ⟨(some 4), .mv (.t 42), none, [], false⟩,
         ⟨(some 5), .mv (.k (.int .i64 0)), none, [], false⟩])
       (.ret))))
/-- skyway/skywaykeep2.square -/
def c33 : CF where
  np := 2
  nt := 28
  res := [.t 4]
  code := .seq (.reg [
      ⟨(some 2), .box (.t 0), none, [], false⟩,
      ⟨(some 3), .box (.t 1), none, [], false⟩,
      ⟨(some 4), .mv (.k (.int .i64 0)), none, [], false⟩])
    (.seq (.reg [
       ⟨(some 5), .fad 0 (.t 2), none, [], false⟩,
       ⟨(some 6), .ld1 (.t 5), none, [], false⟩,
       ⟨(some 7), .fad 0 (.t 3), none, [], false⟩,
       ⟨(some 8), .ld1 (.t 7), none, [], false⟩,
       ⟨(some 9), .bin .sub (.t 6) (.t 8), none, [], false⟩,
       ⟨(some 10), .fad 0 (.t 2), none, [], false⟩,
       ⟨(some 11), .ld1 (.t 10), none, [], false⟩,
       ⟨(some 12), .fad 0 (.t 3), none, [], false⟩,
       ⟨(some 13), .ld1 (.t 12), none, [], false⟩,
       ⟨(some 14), .bin .sub (.t 11) (.t 13), none, [], false⟩,
       ⟨(some 15), .bin .mul (.t 9) (.t 14), none, [], false⟩,
       ⟨(some 16), .fad 1 (.t 2), none, [], false⟩,
       ⟨(some 17), .ld1 (.t 16), none, [], false⟩,
       ⟨(some 18), .fad 1 (.t 3), none, [], false⟩,
       ⟨(some 19), .ld1 (.t 18), none, [], false⟩,
       ⟨(some 20), .bin .sub (.t 17) (.t 19), none, [], false⟩,
       ⟨(some 21), .fad 1 (.t 2), none, [], false⟩,
       ⟨(some 22), .ld1 (.t 21), none, [], false⟩,
       ⟨(some 23), .fad 1 (.t 3), none, [], false⟩,
       ⟨(some 24), .ld1 (.t 23), none, [], false⟩,
       ⟨(some 25), .bin .sub (.t 22) (.t 24), none, [], false⟩,
       ⟨(some 26), .bin .mul (.t 20) (.t 25), none, [], false⟩,
       ⟨(some 27), .bin .add (.t 15) (.t 26), none, [], false⟩,
       ⟨(some 4), .mv (.t 27), none, [], false⟩])
     (.ret))
/-- skyway/skywaykeep2.FilterHolds -/
def c9 : CF where
  np := 9
  nt := 129
  res := [.t 18]
  code := .seq (.reg [
      ⟨(some 9), .box (.t 0), none, [], false⟩,
      ⟨(some 10), .box (.t 1), none, [], false⟩,
      ⟨(some 18), .mv (.k (.bool false)), none, [], false⟩])
    (.seq (.seq (.reg [
        ⟨(some 28), .call (.k (.fn 28 [])) [], none, [], false⟩,
        ⟨(some 29), .un .not (.t 28), none, [], false⟩])
      (.cond (.t 29) (.seq (.reg [
          ⟨(some 18), .mv (.k (.bool false)), none, [], false⟩])
        (.ret))
       (.skip)))
     (.seq (.reg [
        ⟨(some 30), .mv (.t 4), none, [], false⟩,
        ⟨(some 31), .call (.k (.fn 16 [])) [(.t 30), (.k (.int .i64 0)), (.k (.int .i64 5))], none, [], false⟩,
        ⟨(some 32), .mv (.t 5), none, [], false⟩,
        ⟨(some 33), .call (.k (.fn 16 [])) [(.t 32), (.k (.int .i64 0)), (.k (.int .i64 256))], none, [], false⟩,
        ⟨(some 34), .mv (.t 6), none, [], false⟩,
        ⟨(some 35), .call (.k (.fn 16 [])) [(.t 34), (.k (.int .i64 0)), (.k (.int .i64 256))], none, [], false⟩,
        ⟨(some 36), .mv (.t 7), none, [], false⟩,
        ⟨(some 37), .call (.k (.fn 16 [])) [(.t 36), (.k (.int .i64 1)), (.k (.int .i64 10))], none, [], false⟩,
        ⟨(some 38), .mv (.t 8), none, [], false⟩,
        ⟨(some 39), .call (.k (.fn 16 [])) [(.t 38), (.k (.int .i64 0)), (.k (.int .i64 300))], none, [], false⟩,
        ⟨(some 4), .mv (.t 31), none, [], false⟩,
        ⟨(some 5), .mv (.t 33), none, [], false⟩,
        ⟨(some 6), .mv (.t 35), none, [], false⟩,
        ⟨(some 7), .mv (.t 37), none, [], false⟩,
        ⟨(some 8), .mv (.t 39), none, [], false⟩])
      (.seq (.reg [
         ⟨(some 40), .ldn 2 (.t 9), none, [], false⟩,
         ⟨(some 41), .ldn 2 (.t 10), none, [], false⟩,
         ⟨(some 42), .mv (.t 2), none, [], false⟩,
         ⟨(some 43), .mv (.t 4), none, [], false⟩,
         ⟨(some 44), .call (.k (.fn 30 [])) [(.t 40), (.t 41), (.t 42), (.t 43), (.k (.int .i64 60))], none, [], false⟩,
         ⟨(some 19), .mv (.t 44), none, [], false⟩])
       (.seq (.reg [
          ⟨(some 46), .mv (.t 19), none, [], false⟩,
          ⟨(some 47), .slc 2 (.t 46) none (some (.k (.int .i64 41))), none, [], false⟩,
          ⟨(some 48), .mv (.t 7), none, [], false⟩,
          ⟨(some 49), .mv (.t 8), none, [], false⟩,
          ⟨(some 50), .mv (.t 4), none, [], false⟩,
          ⟨(some 51), .mv (.t 5), none, [], false⟩,
          ⟨(some 52), .mv (.t 6), none, [], false⟩,
          ⟨(some 53), .mv (.t 3), none, [], false⟩,
          ⟨(some 54), .call (.k (.fn 31 [])) [(.t 47), (.t 48), (.t 49), (.t 50), (.t 51), (.t 52), (.t 53)], none, [], false⟩,
          ⟨(some 45), .mv (.t 54), none, [], false⟩,
          ⟨(some 55), .ext (.t 45) 0, none, [], false⟩,
          ⟨(some 56), .ext (.t 45) 1, none, [], false⟩,
          ⟨(some 57), .ext (.t 45) 2, none, [], false⟩,
          ⟨(some 20), .new [.int .i64 0, .int .i64 0, .int .i64 0, .int .i64 0, .int .i64 0, .int .i64 0, .int .i64 0, .int .i64 0, .int .i64 0, .int .i64 0, .int .i64 0, .int .i64 0, .int .i64 0, .int .i64 0, .int .i64 0, .int .i64 0, .int .i64 0, .int .i64 0, .int .i64 0, .int .i64 0], none, [], false⟩,
          ⟨none, .st 20 (.t 20) (.t 55), none, [], false⟩,
          ⟨(some 21), .mv (.t 56), none, [], false⟩,
          ⟨(some 22), .mv (.t 57), none, [], false⟩])
        (.seq (.seq (.reg [
            ⟨(some 58), .mv (.t 22), none, [], false⟩,
            ⟨(some 59), .un .not (.t 58), none, [], false⟩])
          (.cond (.t 59) (.seq (.reg [
              ⟨(some 18), .mv (.k (.bool false)), none, [], false⟩])
            (.ret))
           (.skip)))
         (.seq (.seq (.reg [
             ⟨(some 60), .mv (.t 21), none, [], false⟩,
             ⟨(some 23), .mv (.t 60), none, [], false⟩])
           (.blk 0 (.loop (.seq (.seq (.reg [
                 ⟨(some 61), .mv (.t 23), none, [], false⟩,
                 ⟨(some 62), .bin .lss (.t 61) (.k (.int .i64 60)), none, [], false⟩])
               (.cond (.t 62) (.skip)
                (.exit 0)))
              (.seq (.blk 1 (.seq (.reg [
                   ⟨(some 66), .ldn 20 (.t 20), none, [], false⟩,
                   ⟨(some 67), .mv (.t 23), none, [], false⟩,
                   ⟨(some 68), .mv (.t 4), none, [], false⟩,
                   ⟨(some 69), .call (.k (.fn 27 [])) [(.t 66), (.t 67), (.t 68)], none, [], false⟩,
                   ⟨(some 65), .mv (.t 69), none, [], false⟩,
                   ⟨(some 70), .ext (.t 65) 0, none, [], false⟩,
                   ⟨(some 71), .ext (.t 65) 1, none, [], false⟩,
                   ⟨(some 24), .new [.int .i64 0, .int .i64 0, .int .i64 0, .int .i64 0, .int .i64 0, .int .i64 0, .int .i64 0, .int .i64 0, .int .i64 0, .int .i64 0, .int .i64 0, .int .i64 0, .int .i64 0, .int .i64 0, .int .i64 0, .int .i64 0, .int .i64 0, .int .i64 0, .int .i64 0, .int .i64 0], none, [], false⟩,
                   ⟨none, .st 20 (.t 24) (.t 70), none, [], false⟩,
                   ⟨(some 25), .mv (.t 71), none, [], false⟩])
                 (.seq (.seq (.reg [
                     ⟨(some 72), .mv (.t 25), none, [], false⟩,
                     ⟨(some 73), .bin .neq (.t 72) (.k (.int .i64 0)), none, [], false⟩])
                   (.cond (.t 73) (.seq (.reg [
                       ⟨(some 18), .mv (.k (.bool false)), none, [], false⟩])
                     (.ret))
                    (.skip)))
                  (.seq (.reg [
                     ⟨(some 75), .ldn 20 (.t 24), none, [], false⟩,
                     ⟨(some 76), .mv (.t 19), none, [], false⟩,
                     ⟨(some 77), .mv (.t 23), none, [], false⟩,
                     ⟨(some 78), .iad 2 (.t 76) (.t 77), none, [], false⟩,
                     ⟨(some 79), .ldn 2 (.t 78), none, [], false⟩,
                     ⟨(some 80), .call (.k (.fn 32 [])) [(.t 75), (.t 79)], none, [], false⟩,
                     ⟨(some 74), .mv (.t 80), none, [], false⟩,
                     ⟨(some 81), .ext (.t 74) 0, none, [], false⟩,
                     ⟨(some 82), .ext (.t 74) 1, none, [], false⟩,
                     ⟨(some 26), .mv (.t 81), none, [], false⟩,
                     ⟨(some 25), .mv (.t 82), none, [], false⟩])
                   (.seq (.reg [
                      ⟨(some 83), .mv (.t 19), none, [], false⟩,
                      ⟨(some 84), .mv (.t 23), none, [], false⟩,
                      ⟨(some 85), .bin .add (.t 84) (.k (.int .i64 1)), none, [], false⟩,
                      ⟨(some 86), .iad 2 (.t 83) (.t 85), none, [], false⟩,
                      ⟨(some 87), .fad 0 (.t 86), none, [], false⟩,
                      ⟨(some 88), .ld1 (.t 87), none, [], false⟩,
                      ⟨(some 89), .mv (.t 19), none, [], false⟩,
                      ⟨(some 90), .mv (.t 23), none, [], false⟩,
                      ⟨(some 91), .iad 2 (.t 89) (.t 90), none, [], false⟩,
                      ⟨(some 92), .fad 0 (.t 91), none, [], false⟩,
                      ⟨(some 93), .ld1 (.t 92), none, [], false⟩,
                      ⟨(some 94), .bin .sub (.t 88) (.t 93), none, [], false⟩,
                      ⟨(some 95), .bin .mul (.k (.int .i64 16)) (.t 94), none, [], false⟩,
                      ⟨(some 96), .mv (.t 19), none, [], false⟩,
                      ⟨(some 97), .mv (.t 23), none, [], false⟩,
                      ⟨(some 98), .bin .add (.t 97) (.k (.int .i64 1)), none, [], false⟩,
                      ⟨(some 99), .iad 2 (.t 96) (.t 98), none, [], false⟩,
                      ⟨(some 100), .fad 1 (.t 99), none, [], false⟩,
                      ⟨(some 101), .ld1 (.t 100), none, [], false⟩,
                      ⟨(some 102), .mv (.t 19), none, [], false⟩,
                      ⟨(some 103), .mv (.t 23), none, [], false⟩,
                      ⟨(some 104), .iad 2 (.t 102) (.t 103), none, [], false⟩,
                      ⟨(some 105), .fad 1 (.t 104), none, [], false⟩,
                      ⟨(some 106), .ld1 (.t 105), none, [], false⟩,
                      ⟨(some 107), .bin .sub (.t 101) (.t 106), none, [], false⟩,
                      ⟨(some 108), .bin .mul (.k (.int .i64 16)) (.t 107), none, [], false⟩,
                      ⟨(some 109), .mk [.int .i64 0, .int .i64 0] [(0, 1, (.t 95)), (1, 1, (.t 108))], none, [], false⟩,
                      ⟨(some 27), .new [.int .i64 0, .int .i64 0], none, [], false⟩,
                      ⟨none, .st 2 (.t 27) (.t 109), none, [], false⟩])
                    (.seq (.reg [
                       ⟨(some 110), .mv (.t 25), none, [], false⟩,
                       ⟨(some 111), .bin .neq (.t 110) (.k (.int .i64 0)), none, [], false⟩,
                       ⟨(some 112), .mv (.t 111), none, [], false⟩,
                       ⟨(some 113), .mv (.t 26), (some (112, false)), [], false⟩,
                       ⟨(some 114), .un .not (.t 113), (some (112, false)), [], false⟩,
                       ⟨(some 115), .pick (.t 112) (.k (.bool true)) (.t 114), none, [], false⟩,
                       ⟨(some 116), .mv (.t 115), none, [], false⟩,
                       ⟨(some 117), .fad 0 (.t 24), (some (116, false)), [], false⟩,
                       ⟨(some 118), .fad 5 (.t 117), (some (116, false)), [], false⟩,
                       ⟨(some 119), .ldn 2 (.t 118), (some (116, false)), [], false⟩,
                       ⟨(some 120), .ldn 2 (.t 27), (some (116, false)), [], false⟩,
                       ⟨(some 122), .fad 13 (.t 24), (some (116, false)), [], false⟩,
                       ⟨(some 123), .ld1 (.t 122), (some (116, false)), [], false⟩,
                       ⟨(some 124), .fad 13 (.t 24), (some (116, false)), [], false⟩,
                       ⟨(some 125), .ld1 (.t 124), (some (116, false)), [], false⟩,
                       ⟨(some 126), .bin .mul (.t 123) (.t 125), (some (116, false)), [], false⟩,
                       ⟨(some 121), .call (.k (.fn 33 [])) [(.t 119), (.t 120)], (some (116, false)), [], true⟩,
                       ⟨(some 127), .bin .gtr (.t 121) (.t 126), (some (116, false)), [], false⟩,
                       ⟨(some 128), .pick (.t 116) (.k (.bool true)) (.t 127), none, [], false⟩])
                     (.cond (.t 128) (.seq (.reg [
                         ⟨(some 18), .mv (.k (.bool false)), none, [], false⟩])
                       (.ret))
                      (.skip))))))))
               (.reg [
                 ⟨(some 63), .mv (.t 23), none, [], false⟩,
                 ⟨(some 64), .bin .add (.t 63) (.k (.int .i64 1)), none, [], false⟩,
                 ⟨(some 23), .mv (.t 64), none, [], false⟩]))))))
          (.seq (.reg [
             ⟨(some 18), .mv (.k (.bool true)), none, [], false⟩])
           (.ret))))))))
/-- skyway/skywaykeep2.FilterContains -/
def c10 : CF where
  np := 2
  nt := 50
  res := [.t 4]
  code := .seq (.reg [
      ⟨(some 2), .box (.t 0), none, [], false⟩,
      ⟨(some 3), .box (.t 1), none, [], false⟩,
      ⟨(some 4), .mv (.k (.bool false)), none, [], false⟩])
    (.seq (.seq (.reg [
        ⟨(some 11), .call (.k (.fn 28 [])) [], none, [], false⟩,
        ⟨(some 12), .un .not (.t 11), none, [], false⟩])
      (.cond (.t 12) (.seq (.reg [
          ⟨(some 4), .mv (.k (.bool false)), none, [], false⟩])
        (.ret))
       (.skip)))
     (.seq (.reg [
        ⟨(some 14), .ldn 20 (.t 2), none, [], false⟩,
        ⟨(some 15), .fad 0 (.t 2), none, [], false⟩,
        ⟨(some 16), .fad 3 (.t 15), none, [], false⟩,
        ⟨(some 17), .ldn 2 (.t 16), none, [], false⟩,
        ⟨(some 18), .call (.k (.fn 32 [])) [(.t 14), (.t 17)], none, [], false⟩,
        ⟨(some 13), .mv (.t 18), none, [], false⟩,
        ⟨(some 19), .ext (.t 13) 0, none, [], false⟩,
        ⟨(some 20), .ext (.t 13) 1, none, [], false⟩,
        ⟨(some 5), .mv (.t 19), none, [], false⟩,
        ⟨(some 6), .mv (.t 20), none, [], false⟩])
      (.seq (.seq (.reg [
          ⟨(some 21), .mv (.t 6), none, [], false⟩,
          ⟨(some 22), .bin .neq (.t 21) (.k (.int .i64 0)), none, [], false⟩])
        (.cond (.t 22) (.seq (.reg [
            ⟨(some 23), .mv (.t 5), none, [], false⟩,
            ⟨(some 24), .un .not (.t 23), none, [], false⟩,
            ⟨(some 4), .mv (.t 24), none, [], false⟩])
          (.ret))
         (.skip)))
       (.seq (.reg [
          ⟨(some 26), .ldn 20 (.t 2), none, [], false⟩,
          ⟨(some 27), .ldn 6 (.t 3), none, [], false⟩,
          ⟨(some 28), .call (.k (.fn 29 [])) [(.t 26), (.t 27), (.k (.int .i64 0)), (.k (.int .i64 256)), (.k (.int .i64 0))], none, [], false⟩,
          ⟨(some 25), .mv (.t 28), none, [], false⟩,
          ⟨(some 29), .ext (.t 25) 0, none, [], false⟩,
          ⟨(some 30), .ext (.t 25) 1, none, [], false⟩,
          ⟨(some 7), .new [.int .i64 0, .int .i64 0, .int .i64 0, .int .i64 0, .int .i64 0, .int .i64 0, .int .i64 0, .int .i64 0, .int .i64 0, .int .i64 0, .int .i64 0, .int .i64 0, .int .i64 0, .int .i64 0, .int .i64 0, .int .i64 0, .int .i64 0, .int .i64 0, .int .i64 0, .int .i64 0], none, [], false⟩,
          ⟨none, .st 20 (.t 7) (.t 29), none, [], false⟩,
          ⟨(some 8), .mv (.t 30), none, [], false⟩])
        (.seq (.reg [
           ⟨(some 32), .ldn 20 (.t 7), none, [], false⟩,
           ⟨(some 33), .fad 1 (.t 3), none, [], false⟩,
           ⟨(some 34), .ldn 2 (.t 33), none, [], false⟩,
           ⟨(some 35), .call (.k (.fn 32 [])) [(.t 32), (.t 34)], none, [], false⟩,
           ⟨(some 31), .mv (.t 35), none, [], false⟩,
           ⟨(some 36), .ext (.t 31) 0, none, [], false⟩,
           ⟨(some 37), .ext (.t 31) 1, none, [], false⟩,
           ⟨(some 9), .mv (.t 36), none, [], false⟩,
           ⟨(some 10), .mv (.t 37), none, [], false⟩])
         (.seq (.reg [
            ⟨(some 38), .mv (.t 5), none, [], false⟩,
            ⟨(some 39), .mv (.t 38), none, [], false⟩,
            ⟨(some 40), .mv (.t 8), (some (39, true)), [], false⟩,
            ⟨(some 41), .bin .neq (.t 40) (.k (.int .i64 0)), (some (39, true)), [], false⟩,
            ⟨(some 42), .mv (.t 41), (some (39, true)), [], false⟩,
            ⟨(some 43), .mv (.t 10), (some (42, false)), [], false⟩,
            ⟨(some 44), .bin .eql (.t 43) (.k (.int .i64 0)), (some (42, false)), [], false⟩,
            ⟨(some 45), .mv (.t 44), (some (42, false)), [], false⟩,
            ⟨(some 46), .mv (.t 9), (some (45, true)), [], false⟩,
            ⟨(some 47), .pick (.t 45) (.t 46) (.k (.bool false)), (some (42, false)), [], false⟩,
            ⟨(some 48), .pick (.t 42) (.k (.bool true)) (.t 47), (some (39, true)), [], false⟩,
            ⟨(some 49), .pick (.t 39) (.t 48) (.k (.bool false)), none, [], false⟩,
            ⟨(some 4), .mv (.t 49), none, [], false⟩])
          (.ret)))))))
/-- skyway/skywaykeep2.line -/
def c35 : CF where
  np := 2
  nt := 15
  res := [.t 4]
  code := .seq (.reg [
      ⟨(some 4), .mv (.k (.sl true 0 0 0 0 0)), none, [], false⟩])
    (.seq (.reg [
       ⟨(some 5), .mk [.int .i64 0, .int .i64 0, .int .i64 0, .int .i64 0] [(3, 1, (.k (.int .i64 5000)))], none, [], false⟩,
       ⟨(some 6), .mv (.t 0), none, [], false⟩,
       ⟨(some 7), .mv (.t 1), none, [], false⟩,
       ⟨(some 8), .mk [.int .i64 0, .int .i64 0, .int .i64 0, .int .i64 0, .int .i64 0, .int .i64 0] [(0, 4, (.t 5)), (4, 1, (.t 6)), (5, 1, (.t 7))], none, [], false⟩,
       ⟨(some 9), .mk [.int .i64 0, .int .i64 0] [(0, 1, (.k (.int .i64 20000)))], none, [], false⟩,
       ⟨(some 10), .mk [.int .i64 0, .int .i64 0, .int .i64 0, .int .i64 0] [(0, 1, (.k (.int .i64 100))), (1, 2, (.t 9)), (3, 1, (.k (.int .i64 5000)))], none, [], false⟩,
       ⟨(some 11), .mv (.t 0), none, [], false⟩,
       ⟨(some 12), .mv (.t 1), none, [], false⟩,
       ⟨(some 13), .mk [.int .i64 0, .int .i64 0, .int .i64 0, .int .i64 0, .int .i64 0, .int .i64 0] [(0, 4, (.t 10)), (4, 1, (.t 11)), (5, 1, (.t 12))], none, [], false⟩,
       ⟨(some 14), .mks [.int .i64 0, .int .i64 0, .int .i64 0, .int .i64 0, .int .i64 0, .int .i64 0, .int .i64 0, .int .i64 0, .int .i64 0, .int .i64 0, .int .i64 0, .int .i64 0] 6 2 [(0, 6, (.t 8)), (6, 6, (.t 13))], none, [], false⟩,
       ⟨(some 4), .mv (.t 14), none, [], false⟩])
     (.ret))
/-- skyway/pair.checkTrack -/
def c61 : CF where
  np := 1
  nt := 65
  res := [.t 2]
  code := .seq (.reg [
      ⟨(some 1), .box (.t 0), none, [], false⟩,
      ⟨(some 2), .mv (.k (.int .i64 0)), none, [], false⟩])
    (.seq (.seq (.reg [
        ⟨(some 3), .fad 2 (.t 1), none, [], false⟩,
        ⟨(some 4), .ld1 (.t 3), none, [], false⟩,
        ⟨(some 5), .bin .lss (.t 4) (.k (.int .i64 0)), none, [], false⟩,
        ⟨(some 6), .mv (.t 5), none, [], false⟩,
        ⟨(some 7), .fad 2 (.t 1), (some (6, false)), [], false⟩,
        ⟨(some 8), .ld1 (.t 7), (some (6, false)), [], false⟩,
        ⟨(some 9), .bin .gtr (.t 8) (.k (.int .i64 200000)), (some (6, false)), [], false⟩,
        ⟨(some 10), .pick (.t 6) (.k (.bool true)) (.t 9), none, [], false⟩,
        ⟨(some 11), .mv (.t 10), none, [], false⟩,
        ⟨(some 12), .fad 3 (.t 1), (some (11, false)), [], false⟩,
        ⟨(some 13), .fad 0 (.t 12), (some (11, false)), [], false⟩,
        ⟨(some 14), .ld1 (.t 13), (some (11, false)), [], false⟩,
        ⟨(some 15), .bin .lss (.t 14) (.k (.int .i64 (-1000000))), (some (11, false)), [], false⟩,
        ⟨(some 16), .pick (.t 11) (.k (.bool true)) (.t 15), none, [], false⟩,
        ⟨(some 17), .mv (.t 16), none, [], false⟩,
        ⟨(some 18), .fad 3 (.t 1), (some (17, false)), [], false⟩,
        ⟨(some 19), .fad 0 (.t 18), (some (17, false)), [], false⟩,
        ⟨(some 20), .ld1 (.t 19), (some (17, false)), [], false⟩,
        ⟨(some 21), .bin .gtr (.t 20) (.k (.int .i64 1000000)), (some (17, false)), [], false⟩,
        ⟨(some 22), .pick (.t 17) (.k (.bool true)) (.t 21), none, [], false⟩,
        ⟨(some 23), .mv (.t 22), none, [], false⟩,
        ⟨(some 24), .fad 3 (.t 1), (some (23, false)), [], false⟩,
        ⟨(some 25), .fad 1 (.t 24), (some (23, false)), [], false⟩,
        ⟨(some 26), .ld1 (.t 25), (some (23, false)), [], false⟩,
        ⟨(some 27), .bin .lss (.t 26) (.k (.int .i64 (-1000000))), (some (23, false)), [], false⟩,
        ⟨(some 28), .pick (.t 23) (.k (.bool true)) (.t 27), none, [], false⟩,
        ⟨(some 29), .mv (.t 28), none, [], false⟩,
        ⟨(some 30), .fad 3 (.t 1), (some (29, false)), [], false⟩,
        ⟨(some 31), .fad 1 (.t 30), (some (29, false)), [], false⟩,
        ⟨(some 32), .ld1 (.t 31), (some (29, false)), [], false⟩,
        ⟨(some 33), .bin .gtr (.t 32) (.k (.int .i64 1000000)), (some (29, false)), [], false⟩,
        ⟨(some 34), .pick (.t 29) (.k (.bool true)) (.t 33), none, [], false⟩,
        ⟨(some 35), .mv (.t 34), none, [], false⟩,
        ⟨(some 36), .fad 7 (.t 1), (some (35, false)), [], false⟩,
        ⟨(some 37), .ld1 (.t 36), (some (35, false)), [], false⟩,
        ⟨(some 38), .bin .lss (.t 37) (.k (.int .i64 0)), (some (35, false)), [], false⟩,
        ⟨(some 39), .pick (.t 35) (.k (.bool true)) (.t 38), none, [], false⟩,
        ⟨(some 40), .mv (.t 39), none, [], false⟩,
        ⟨(some 41), .fad 7 (.t 1), (some (40, false)), [], false⟩,
        ⟨(some 42), .ld1 (.t 41), (some (40, false)), [], false⟩,
        ⟨(some 43), .bin .gtr (.t 42) (.k (.int .i64 60000)), (some (40, false)), [], false⟩,
        ⟨(some 44), .pick (.t 40) (.k (.bool true)) (.t 43), none, [], false⟩,
        ⟨(some 45), .mv (.t 44), none, [], false⟩,
        ⟨(some 46), .fad 9 (.t 1), (some (45, false)), [], false⟩,
        ⟨(some 47), .ld1 (.t 46), (some (45, false)), [], false⟩,
        ⟨(some 48), .bin .lss (.t 47) (.k (.int .i64 0)), (some (45, false)), [], false⟩,
        ⟨(some 49), .pick (.t 45) (.k (.bool true)) (.t 48), none, [], false⟩,
        ⟨(some 50), .mv (.t 49), none, [], false⟩,
        ⟨(some 51), .fad 9 (.t 1), (some (50, false)), [], false⟩,
        ⟨(some 52), .ld1 (.t 51), (some (50, false)), [], false⟩,
        ⟨(some 53), .bin .gtr (.t 52) (.k (.int .i64 4000000)), (some (50, false)), [], false⟩,
        ⟨(some 54), .pick (.t 50) (.k (.bool true)) (.t 53), none, [], false⟩,
        ⟨(some 55), .mv (.t 54), none, [], false⟩,
        ⟨(some 56), .fad 10 (.t 1), (some (55, false)), [], false⟩,
        ⟨(some 57), .ld1 (.t 56), (some (55, false)), [], false⟩,
        ⟨(some 58), .bin .lss (.t 57) (.k (.int .i64 (-1))), (some (55, false)), [], false⟩,
        ⟨(some 59), .pick (.t 55) (.k (.bool true)) (.t 58), none, [], false⟩,
        ⟨(some 60), .mv (.t 59), none, [], false⟩,
        ⟨(some 61), .fad 10 (.t 1), (some (60, false)), [], false⟩,
        ⟨(some 62), .ld1 (.t 61), (some (60, false)), [], false⟩,
        ⟨(some 63), .bin .gtr (.t 62) (.k (.int .i64 4095)), (some (60, false)), [], false⟩,
        ⟨(some 64), .pick (.t 60) (.k (.bool true)) (.t 63), none, [], false⟩])
      (.cond (.t 64) (.seq (.reg [
          ⟨(some 2), .mv (.k (.int .i64 4)), none, [], false⟩])
        (.ret))
       (.skip)))
     (.seq (.reg [
        ⟨(some 2), .mv (.k (.int .i64 0)), none, [], false⟩])
      (.ret)))
/-- skyway/plane.Check -/
def c63 : CF where
  np := 1
  nt := 21
  res := [.t 2]
  code := .seq (.reg [
      ⟨(some 1), .box (.t 0), none, [], false⟩,
      ⟨(some 2), .mv (.k (.int .i64 0)), none, [], false⟩])
    (.seq (.seq (.reg [
        ⟨(some 3), .fad 0 (.t 1), none, [], false⟩,
        ⟨(some 4), .ld1 (.t 3), none, [], false⟩,
        ⟨(some 5), .bin .lss (.t 4) (.k (.int .i64 (-1000000))), none, [], false⟩,
        ⟨(some 6), .mv (.t 5), none, [], false⟩,
        ⟨(some 7), .fad 0 (.t 1), (some (6, false)), [], false⟩,
        ⟨(some 8), .ld1 (.t 7), (some (6, false)), [], false⟩,
        ⟨(some 9), .bin .gtr (.t 8) (.k (.int .i64 1000000)), (some (6, false)), [], false⟩,
        ⟨(some 10), .pick (.t 6) (.k (.bool true)) (.t 9), none, [], false⟩,
        ⟨(some 11), .mv (.t 10), none, [], false⟩,
        ⟨(some 12), .fad 1 (.t 1), (some (11, false)), [], false⟩,
        ⟨(some 13), .ld1 (.t 12), (some (11, false)), [], false⟩,
        ⟨(some 14), .bin .lss (.t 13) (.k (.int .i64 (-1000000))), (some (11, false)), [], false⟩,
        ⟨(some 15), .pick (.t 11) (.k (.bool true)) (.t 14), none, [], false⟩,
        ⟨(some 16), .mv (.t 15), none, [], false⟩,
        ⟨(some 17), .fad 1 (.t 1), (some (16, false)), [], false⟩,
        ⟨(some 18), .ld1 (.t 17), (some (16, false)), [], false⟩,
        ⟨(some 19), .bin .gtr (.t 18) (.k (.int .i64 1000000)), (some (16, false)), [], false⟩,
        ⟨(some 20), .pick (.t 16) (.k (.bool true)) (.t 19), none, [], false⟩])
      (.cond (.t 20) (.seq (.reg [
          ⟨(some 2), .mv (.k (.int .i64 4)), none, [], false⟩])
        (.ret))
       (.skip)))
     (.seq (.reg [
        ⟨(some 2), .mv (.k (.int .i64 0)), none, [], false⟩])
      (.ret)))
/-- skyway/tube.Check -/
def c38 : CF where
  np := 1
  nt := 86
  res := [.t 2]
  code := .seq (.reg [
      ⟨(some 2), .mv (.k (.int .i64 0)), none, [], false⟩])
    (.seq (.blk 0 (.seq (.reg [
         ⟨(some 7), .mv (.t 0), none, [], false⟩,
         ⟨(some 8), .lenv false (.t 7), none, [], false⟩,
         ⟨(some 9), .bin .gtr (.t 8) (.k (.int .i64 64)), none, [], false⟩,
         ⟨(some 6), .mv (.t 9), none, [], false⟩])
       (.cond (.t 6) (.seq (.reg [
           ⟨(some 2), .mv (.k (.int .i64 2)), none, [], false⟩])
         (.ret))
        (.seq (.reg [
           ⟨(some 11), .mv (.t 0), none, [], false⟩,
           ⟨(some 12), .lenv false (.t 11), none, [], false⟩,
           ⟨(some 13), .bin .eql (.t 12) (.k (.int .i64 0)), none, [], false⟩,
           ⟨(some 10), .mv (.t 13), none, [], false⟩])
         (.cond (.t 10) (.seq (.reg [
             ⟨(some 2), .mv (.k (.int .i64 3)), none, [], false⟩])
           (.ret))
          (.skip))))))
     (.seq (.seq (.reg [
         ⟨(some 14), .mv (.t 0), none, [], false⟩,
         ⟨(some 15), .lenv false (.t 14), none, [], false⟩,
         ⟨(some 16), .mv (.k (.int .i64 0)), none, [], false⟩])
       (.blk 1 (.loop (.seq (.reg [
            ⟨(some 17), .bin .lss (.t 16) (.t 15), none, [], false⟩])
          (.seq (.cond (.t 17) (.skip)
            (.exit 1))
           (.seq (.blk 2 (.seq (.reg [
                ⟨(some 18), .mv (.t 16), none, [], false⟩,
                ⟨(some 19), .iad 6 (.t 14) (.t 16), none, [], false⟩,
                ⟨(some 20), .ldn 6 (.t 19), none, [], false⟩,
                ⟨(some 4), .new [.int .i64 0, .int .i64 0, .int .i64 0, .int .i64 0, .int .i64 0, .int .i64 0], none, [], false⟩,
                ⟨(some 3), .mv (.t 18), none, [], false⟩,
                ⟨none, .st 6 (.t 4) (.t 20), none, [], false⟩])
              (.seq (.seq (.reg [
                  ⟨(some 21), .fad 0 (.t 4), none, [], false⟩,
                  ⟨(some 22), .fad 0 (.t 21), none, [], false⟩,
                  ⟨(some 23), .ld1 (.t 22), none, [], false⟩,
                  ⟨(some 24), .bin .lss (.t 23) (.k (.int .i64 0)), none, [], false⟩,
                  ⟨(some 25), .mv (.t 24), none, [], false⟩,
                  ⟨(some 26), .fad 0 (.t 4), (some (25, false)), [], false⟩,
                  ⟨(some 27), .fad 0 (.t 26), (some (25, false)), [], false⟩,
                  ⟨(some 28), .ld1 (.t 27), (some (25, false)), [], false⟩,
                  ⟨(some 29), .bin .gtr (.t 28) (.k (.int .i64 200000)), (some (25, false)), [], false⟩,
                  ⟨(some 30), .pick (.t 25) (.k (.bool true)) (.t 29), none, [], false⟩,
                  ⟨(some 31), .mv (.t 30), none, [], false⟩,
                  ⟨(some 32), .mv (.t 3), (some (31, false)), [], false⟩,
                  ⟨(some 33), .bin .gtr (.t 32) (.k (.int .i64 0)), (some (31, false)), [], false⟩,
                  ⟨(some 34), .mv (.t 33), (some (31, false)), [], false⟩,
                  ⟨(some 35), .fad 0 (.t 4), (some (34, true)), [], false⟩,
                  ⟨(some 36), .fad 0 (.t 35), (some (34, true)), [], false⟩,
                  ⟨(some 37), .ld1 (.t 36), (some (34, true)), [], false⟩,
                  ⟨(some 38), .mv (.t 0), (some (34, true)), [], false⟩,
                  ⟨(some 39), .mv (.t 3), (some (34, true)), [], false⟩,
                  ⟨(some 40), .bin .sub (.t 39) (.k (.int .i64 1)), (some (34, true)), [], false⟩,
                  ⟨(some 41), .iad 6 (.t 38) (.t 40), (some (34, true)), [], false⟩,
                  ⟨(some 42), .fad 0 (.t 41), (some (34, true)), [], false⟩,
                  ⟨(some 43), .fad 0 (.t 42), (some (34, true)), [], false⟩,
                  ⟨(some 44), .ld1 (.t 43), (some (34, true)), [], false⟩,
                  ⟨(some 45), .bin .leq (.t 37) (.t 44), (some (34, true)), [], false⟩,
                  ⟨(some 46), .pick (.t 34) (.t 45) (.k (.bool false)), (some (31, false)), [], false⟩,
                  ⟨(some 47), .pick (.t 31) (.k (.bool true)) (.t 46), none, [], false⟩])
                (.cond (.t 47) (.seq (.reg [
                    ⟨(some 2), .mv (.k (.int .i64 12)), none, [], false⟩])
                  (.ret))
                 (.skip)))
               (.seq (.seq (.reg [
                   ⟨(some 48), .fad 0 (.t 4), none, [], false⟩,
                   ⟨(some 49), .fad 1 (.t 48), none, [], false⟩,
                   ⟨(some 50), .ldn 2 (.t 49), none, [], false⟩,
                   ⟨(some 51), .call (.k (.fn 63 [])) [(.t 50)], none, [], false⟩,
                   ⟨(some 5), .mv (.t 51), none, [], false⟩])
                 (.seq (.reg [
                    ⟨(some 52), .mv (.t 5), none, [], false⟩,
                    ⟨(some 53), .bin .neq (.t 52) (.k (.int .i64 0)), none, [], false⟩])
                  (.cond (.t 53) (.seq (.reg [
                      ⟨(some 54), .mv (.t 5), none, [], false⟩,
                      ⟨(some 2), .mv (.t 54), none, [], false⟩])
                    (.ret))
                   (.skip))))
                (.seq (.reg [
                   ⟨(some 55), .fad 0 (.t 4), none, [], false⟩,
                   ⟨(some 56), .fad 3 (.t 55), none, [], false⟩,
                   ⟨(some 57), .ld1 (.t 56), none, [], false⟩,
                   ⟨(some 58), .bin .lss (.t 57) (.k (.int .i64 0)), none, [], false⟩,
                   ⟨(some 59), .mv (.t 58), none, [], false⟩,
                   ⟨(some 60), .fad 0 (.t 4), (some (59, false)), [], false⟩,
                   ⟨(some 61), .fad 3 (.t 60), (some (59, false)), [], false⟩,
                   ⟨(some 62), .ld1 (.t 61), (some (59, false)), [], false⟩,
                   ⟨(some 63), .bin .gtr (.t 62) (.k (.int .i64 60000)), (some (59, false)), [], false⟩,
                   ⟨(some 64), .pick (.t 59) (.k (.bool true)) (.t 63), none, [], false⟩,
                   ⟨(some 65), .mv (.t 64), none, [], false⟩,
                   ⟨(some 66), .fad 4 (.t 4), (some (65, false)), [], false⟩,
                   ⟨(some 67), .ld1 (.t 66), (some (65, false)), [], false⟩,
                   ⟨(some 68), .bin .lss (.t 67) (.k (.int .i64 0)), (some (65, false)), [], false⟩,
                   ⟨(some 69), .pick (.t 65) (.k (.bool true)) (.t 68), none, [], false⟩,
                   ⟨(some 70), .mv (.t 69), none, [], false⟩,
                   ⟨(some 71), .fad 4 (.t 4), (some (70, false)), [], false⟩,
                   ⟨(some 72), .ld1 (.t 71), (some (70, false)), [], false⟩,
                   ⟨(some 73), .bin .gtr (.t 72) (.k (.int .i64 1000000)), (some (70, false)), [], false⟩,
                   ⟨(some 74), .pick (.t 70) (.k (.bool true)) (.t 73), none, [], false⟩,
                   ⟨(some 75), .mv (.t 74), none, [], false⟩,
                   ⟨(some 76), .fad 5 (.t 4), (some (75, false)), [], false⟩,
                   ⟨(some 77), .ld1 (.t 76), (some (75, false)), [], false⟩,
                   ⟨(some 78), .bin .lss (.t 77) (.k (.int .i64 0)), (some (75, false)), [], false⟩,
                   ⟨(some 79), .pick (.t 75) (.k (.bool true)) (.t 78), none, [], false⟩,
                   ⟨(some 80), .mv (.t 79), none, [], false⟩,
                   ⟨(some 81), .fad 5 (.t 4), (some (80, false)), [], false⟩,
                   ⟨(some 82), .ld1 (.t 81), (some (80, false)), [], false⟩,
                   ⟨(some 83), .bin .gtr (.t 82) (.k (.int .i64 60000)), (some (80, false)), [], false⟩,
                   ⟨(some 84), .pick (.t 80) (.k (.bool true)) (.t 83), none, [], false⟩])
                 (.cond (.t 84) (.seq (.reg [
                     ⟨(some 2), .mv (.k (.int .i64 4)), none, [], false⟩])
                   (.ret))
                  (.skip)))))))
            (.reg [
              ⟨(some 85), .bin .add (.t 16) (.k (.int .i64 1)), none, [], false⟩,
              ⟨(some 16), .mv (.t 85), none, [], false⟩])))))))
      (.seq (.reg [
         ⟨(some 2), .mv (.k (.int .i64 0)), none, [], false⟩])
       (.ret))))
/-- skyway/plane.Toward -/
def c77 : CF where
  np := 4
  nt := 74
  res := [.cn 2 8, .t 9]
  code := .seq (.reg [
      ⟨(some 4), .box (.t 0), none, [], false⟩,
      ⟨(some 5), .box (.t 1), none, [], false⟩,
      ⟨(some 8), .new [.int .i64 0, .int .i64 0], none, [], false⟩,
      ⟨(some 9), .mv (.k (.int .i64 0)), none, [], false⟩])
    (.seq (.blk 0 (.seq (.reg [
         ⟨(some 15), .mv (.t 3), none, [], false⟩,
         ⟨(some 16), .bin .leq (.t 15) (.k (.int .i64 0)), none, [], false⟩,
         ⟨(some 14), .mv (.t 16), none, [], false⟩])
       (.cond (.t 14) (.seq (.reg [
           ⟨(some 17), .mk [.int .i64 0, .int .i64 0] [], none, [], false⟩,
           ⟨none, .st 2 (.t 8) (.t 17), none, [], false⟩,
           ⟨(some 9), .mv (.k (.int .i64 10)), none, [], false⟩])
         (.ret))
        (.seq (.reg [
           ⟨(some 19), .mv (.t 3), none, [], false⟩,
           ⟨(some 20), .bin .gtr (.t 19) (.k (.int .i64 200000)), none, [], false⟩,
           ⟨(some 21), .mv (.t 20), none, [], false⟩,
           ⟨(some 22), .mv (.t 2), (some (21, false)), [], false⟩,
           ⟨(some 23), .bin .lss (.t 22) (.k (.int .i64 0)), (some (21, false)), [], false⟩,
           ⟨(some 24), .pick (.t 21) (.k (.bool true)) (.t 23), none, [], false⟩,
           ⟨(some 25), .mv (.t 24), none, [], false⟩,
           ⟨(some 26), .mv (.t 2), (some (25, false)), [], false⟩,
           ⟨(some 27), .mv (.t 3), (some (25, false)), [], false⟩,
           ⟨(some 28), .bin .gtr (.t 26) (.t 27), (some (25, false)), [], false⟩,
           ⟨(some 29), .pick (.t 25) (.k (.bool true)) (.t 28), none, [], false⟩,
           ⟨(some 30), .mv (.t 29), none, [], false⟩,
           ⟨(some 31), .ldn 2 (.t 4), (some (30, false)), [], false⟩,
           ⟨(some 32), .call (.k (.fn 63 [])) [(.t 31)], (some (30, false)), [], false⟩,
           ⟨(some 33), .bin .neq (.t 32) (.k (.int .i64 0)), (some (30, false)), [], false⟩,
           ⟨(some 34), .pick (.t 30) (.k (.bool true)) (.t 33), none, [], false⟩,
           ⟨(some 35), .mv (.t 34), none, [], false⟩,
           ⟨(some 36), .ldn 2 (.t 5), (some (35, false)), [], false⟩,
           ⟨(some 37), .call (.k (.fn 63 [])) [(.t 36)], (some (35, false)), [], false⟩,
           ⟨(some 38), .bin .neq (.t 37) (.k (.int .i64 0)), (some (35, false)), [], false⟩,
           ⟨(some 39), .pick (.t 35) (.k (.bool true)) (.t 38), none, [], false⟩,
           ⟨(some 18), .mv (.t 39), none, [], false⟩])
         (.cond (.t 18) (.seq (.reg [
             ⟨(some 40), .mk [.int .i64 0, .int .i64 0] [], none, [], false⟩,
             ⟨none, .st 2 (.t 8) (.t 40), none, [], false⟩,
             ⟨(some 9), .mv (.k (.int .i64 4)), none, [], false⟩])
           (.ret))
          (.skip))))))
     (.seq (.reg [
        ⟨(some 42), .fad 0 (.t 5), none, [], false⟩,
        ⟨(some 43), .ld1 (.t 42), none, [], false⟩,
        ⟨(some 44), .fad 0 (.t 4), none, [], false⟩,
        ⟨(some 45), .ld1 (.t 44), none, [], false⟩,
        ⟨(some 46), .bin .sub (.t 43) (.t 45), none, [], false⟩,
        ⟨(some 47), .mv (.t 2), none, [], false⟩,
        ⟨(some 48), .bin .mul (.t 46) (.t 47), none, [], false⟩,
        ⟨(some 49), .mv (.t 3), none, [], false⟩,
        ⟨(some 50), .call (.k (.fn 46 [])) [(.t 48), (.t 49)], none, [], false⟩,
        ⟨(some 41), .mv (.t 50), none, [], false⟩,
        ⟨(some 51), .ext (.t 41) 0, none, [], false⟩,
        ⟨(some 52), .ext (.t 41) 1, none, [], false⟩,
        ⟨(some 10), .mv (.t 51), none, [], false⟩,
        ⟨(some 11), .mv (.t 52), none, [], false⟩])
      (.seq (.reg [
         ⟨(some 54), .fad 1 (.t 5), none, [], false⟩,
         ⟨(some 55), .ld1 (.t 54), none, [], false⟩,
         ⟨(some 56), .fad 1 (.t 4), none, [], false⟩,
         ⟨(some 57), .ld1 (.t 56), none, [], false⟩,
         ⟨(some 58), .bin .sub (.t 55) (.t 57), none, [], false⟩,
         ⟨(some 59), .mv (.t 2), none, [], false⟩,
         ⟨(some 60), .bin .mul (.t 58) (.t 59), none, [], false⟩,
         ⟨(some 61), .mv (.t 3), none, [], false⟩,
         ⟨(some 62), .call (.k (.fn 46 [])) [(.t 60), (.t 61)], none, [], false⟩,
         ⟨(some 53), .mv (.t 62), none, [], false⟩,
         ⟨(some 63), .ext (.t 53) 0, none, [], false⟩,
         ⟨(some 64), .ext (.t 53) 1, none, [], false⟩,
         ⟨(some 12), .mv (.t 63), none, [], false⟩,
         ⟨(some 13), .mv (.t 64), none, [], false⟩])
       (.seq (.reg [
          ⟨(some 65), .fad 0 (.t 4), none, [], false⟩,
          ⟨(some 66), .ld1 (.t 65), none, [], false⟩,
          ⟨(some 67), .mv (.t 10), none, [], false⟩,
          ⟨(some 68), .bin .add (.t 66) (.t 67), none, [], false⟩,
          ⟨(some 69), .fad 1 (.t 4), none, [], false⟩,
          ⟨(some 70), .ld1 (.t 69), none, [], false⟩,
          ⟨(some 71), .mv (.t 12), none, [], false⟩,
          ⟨(some 72), .bin .add (.t 70) (.t 71), none, [], false⟩,
          ⟨(some 73), .mk [.int .i64 0, .int .i64 0] [(0, 1, (.t 68)), (1, 1, (.t 72))], none, [], false⟩,
          ⟨none, .st 2 (.t 8) (.t 73), none, [], false⟩,
          ⟨(some 9), .mv (.k (.int .i64 0)), none, [], false⟩])
        (.ret)))))
/-- skyway/tube.between -/
def c78 : CF where
  np := 4
  nt := 24
  res := [.t 8]
  code := .seq (.reg [
      ⟨(some 8), .mv (.k (.int .i64 0)), none, [], false⟩])
    (.seq (.reg [
       ⟨(some 12), .mv (.t 1), none, [], false⟩,
       ⟨(some 13), .mv (.t 0), none, [], false⟩,
       ⟨(some 14), .bin .sub (.t 12) (.t 13), none, [], false⟩,
       ⟨(some 15), .mv (.t 2), none, [], false⟩,
       ⟨(some 16), .bin .mul (.t 14) (.t 15), none, [], false⟩,
       ⟨(some 17), .mv (.t 3), none, [], false⟩,
       ⟨(some 18), .call (.k (.fn 46 [])) [(.t 16), (.t 17)], none, [], false⟩,
       ⟨(some 11), .mv (.t 18), none, [], false⟩,
       ⟨(some 19), .ext (.t 11) 0, none, [], false⟩,
       ⟨(some 20), .ext (.t 11) 1, none, [], false⟩,
       ⟨(some 9), .mv (.t 19), none, [], false⟩,
       ⟨(some 10), .mv (.t 20), none, [], false⟩])
     (.seq (.reg [
        ⟨(some 21), .mv (.t 0), none, [], false⟩,
        ⟨(some 22), .mv (.t 9), none, [], false⟩,
        ⟨(some 23), .bin .add (.t 21) (.t 22), none, [], false⟩,
        ⟨(some 8), .mv (.t 23), none, [], false⟩])
      (.ret)))
/-- skyway/tube.above -/
def c79 : CF where
  np := 4
  nt := 24
  res := [.t 8]
  code := .seq (.reg [
      ⟨(some 8), .mv (.k (.int .i64 0)), none, [], false⟩])
    (.seq (.reg [
       ⟨(some 12), .mv (.t 1), none, [], false⟩,
       ⟨(some 13), .mv (.t 0), none, [], false⟩,
       ⟨(some 14), .bin .sub (.t 12) (.t 13), none, [], false⟩,
       ⟨(some 15), .mv (.t 2), none, [], false⟩,
       ⟨(some 16), .bin .mul (.t 14) (.t 15), none, [], false⟩,
       ⟨(some 17), .mv (.t 3), none, [], false⟩,
       ⟨(some 18), .call (.k (.fn 47 [])) [(.t 16), (.t 17)], none, [], false⟩,
       ⟨(some 11), .mv (.t 18), none, [], false⟩,
       ⟨(some 19), .ext (.t 11) 0, none, [], false⟩,
       ⟨(some 20), .ext (.t 11) 1, none, [], false⟩,
       ⟨(some 9), .mv (.t 19), none, [], false⟩,
       ⟨(some 10), .mv (.t 20), none, [], false⟩])
     (.seq (.reg [
        ⟨(some 21), .mv (.t 0), none, [], false⟩,
        ⟨(some 22), .mv (.t 9), none, [], false⟩,
        ⟨(some 23), .bin .add (.t 21) (.t 22), none, [], false⟩,
        ⟨(some 8), .mv (.t 23), none, [], false⟩])
      (.ret)))
/-- skyway/tube.at -/
def c66 : CF where
  np := 2
  nt := 117
  res := [.cn 6 4, .t 5]
  code := .seq (.reg [
      ⟨(some 4), .new [.int .i64 0, .int .i64 0, .int .i64 0, .int .i64 0, .int .i64 0, .int .i64 0], none, [], false⟩,
      ⟨(some 5), .mv (.k (.int .i64 0)), none, [], false⟩])
    (.seq (.seq (.reg [
        ⟨(some 13), .mv (.t 1), none, [], false⟩,
        ⟨(some 14), .mv (.t 0), none, [], false⟩,
        ⟨(some 15), .iad 6 (.t 14) (.k (.int .i64 0)), none, [], false⟩,
        ⟨(some 16), .fad 0 (.t 15), none, [], false⟩,
        ⟨(some 17), .fad 0 (.t 16), none, [], false⟩,
        ⟨(some 18), .ld1 (.t 17), none, [], false⟩,
        ⟨(some 19), .bin .lss (.t 13) (.t 18), none, [], false⟩,
        ⟨(some 20), .mv (.t 19), none, [], false⟩,
        ⟨(some 21), .mv (.t 1), (some (20, false)), [], false⟩,
        ⟨(some 22), .mv (.t 0), (some (20, false)), [], false⟩,
        ⟨(some 23), .mv (.t 0), (some (20, false)), [], false⟩,
        ⟨(some 24), .lenv false (.t 23), (some (20, false)), [], false⟩,
        ⟨(some 25), .bin .sub (.t 24) (.k (.int .i64 1)), (some (20, false)), [], false⟩,
        ⟨(some 26), .iad 6 (.t 22) (.t 25), (some (20, false)), [], false⟩,
        ⟨(some 27), .fad 0 (.t 26), (some (20, false)), [], false⟩,
        ⟨(some 28), .fad 0 (.t 27), (some (20, false)), [], false⟩,
        ⟨(some 29), .ld1 (.t 28), (some (20, false)), [], false⟩,
        ⟨(some 30), .bin .gtr (.t 21) (.t 29), (some (20, false)), [], false⟩,
        ⟨(some 31), .pick (.t 20) (.k (.bool true)) (.t 30), none, [], false⟩])
      (.cond (.t 31) (.seq (.reg [
          ⟨(some 32), .mk [.int .i64 0, .int .i64 0, .int .i64 0, .int .i64 0, .int .i64 0, .int .i64 0] [], none, [], false⟩,
          ⟨none, .st 6 (.t 4) (.t 32), none, [], false⟩,
          ⟨(some 5), .mv (.k (.int .i64 12)), none, [], false⟩])
        (.ret))
       (.skip)))
     (.seq (.reg [
        ⟨(some 6), .mv (.k (.int .i64 0)), none, [], false⟩])
      (.seq (.blk 0 (.loop (.seq (.seq (.reg [
             ⟨(some 33), .mv (.t 6), none, [], false⟩,
             ⟨(some 34), .bin .add (.t 33) (.k (.int .i64 1)), none, [], false⟩,
             ⟨(some 35), .mv (.t 0), none, [], false⟩,
             ⟨(some 36), .lenv false (.t 35), none, [], false⟩,
             ⟨(some 37), .bin .lss (.t 34) (.t 36), none, [], false⟩,
             ⟨(some 38), .mv (.t 37), none, [], false⟩,
             ⟨(some 39), .mv (.t 0), (some (38, true)), [], false⟩,
             ⟨(some 40), .mv (.t 6), (some (38, true)), [], false⟩,
             ⟨(some 41), .bin .add (.t 40) (.k (.int .i64 1)), (some (38, true)), [], false⟩,
             ⟨(some 42), .iad 6 (.t 39) (.t 41), (some (38, true)), [], false⟩,
             ⟨(some 43), .fad 0 (.t 42), (some (38, true)), [], false⟩,
             ⟨(some 44), .fad 0 (.t 43), (some (38, true)), [], false⟩,
             ⟨(some 45), .ld1 (.t 44), (some (38, true)), [], false⟩,
             ⟨(some 46), .mv (.t 1), (some (38, true)), [], false⟩,
             ⟨(some 47), .bin .leq (.t 45) (.t 46), (some (38, true)), [], false⟩,
             ⟨(some 48), .pick (.t 38) (.t 47) (.k (.bool false)), none, [], false⟩])
           (.cond (.t 48) (.skip)
            (.exit 0)))
          (.blk 1 (.reg [
             ⟨(some 49), .mv (.t 6), none, [], false⟩,
             ⟨(some 50), .bin .add (.t 49) (.k (.int .i64 1)), none, [], false⟩,
             ⟨(some 6), .mv (.t 50), none, [], false⟩])))))
       (.seq (.reg [
          ⟨(some 51), .mv (.t 0), none, [], false⟩,
          ⟨(some 52), .mv (.t 6), none, [], false⟩,
          ⟨(some 53), .iad 6 (.t 51) (.t 52), none, [], false⟩,
          ⟨(some 54), .ldn 6 (.t 53), none, [], false⟩,
          ⟨(some 7), .new [.int .i64 0, .int .i64 0, .int .i64 0, .int .i64 0, .int .i64 0, .int .i64 0], none, [], false⟩,
          ⟨none, .st 6 (.t 7) (.t 54), none, [], false⟩])
        (.seq (.seq (.reg [
            ⟨(some 55), .fad 0 (.t 7), none, [], false⟩,
            ⟨(some 56), .fad 0 (.t 55), none, [], false⟩,
            ⟨(some 57), .ld1 (.t 56), none, [], false⟩,
            ⟨(some 58), .mv (.t 1), none, [], false⟩,
            ⟨(some 59), .bin .eql (.t 57) (.t 58), none, [], false⟩])
          (.cond (.t 59) (.seq (.reg [
              ⟨(some 60), .ldn 6 (.t 7), none, [], false⟩,
              ⟨none, .st 6 (.t 4) (.t 60), none, [], false⟩,
              ⟨(some 5), .mv (.k (.int .i64 0)), none, [], false⟩])
            (.ret))
           (.skip)))
         (.seq (.reg [
            ⟨(some 61), .mv (.t 0), none, [], false⟩,
            ⟨(some 62), .mv (.t 6), none, [], false⟩,
            ⟨(some 63), .bin .add (.t 62) (.k (.int .i64 1)), none, [], false⟩,
            ⟨(some 64), .iad 6 (.t 61) (.t 63), none, [], false⟩,
            ⟨(some 65), .ldn 6 (.t 64), none, [], false⟩,
            ⟨(some 8), .new [.int .i64 0, .int .i64 0, .int .i64 0, .int .i64 0, .int .i64 0, .int .i64 0], none, [], false⟩,
            ⟨none, .st 6 (.t 8) (.t 65), none, [], false⟩])
          (.seq (.reg [
             ⟨(some 66), .mv (.t 1), none, [], false⟩,
             ⟨(some 67), .fad 0 (.t 7), none, [], false⟩,
             ⟨(some 68), .fad 0 (.t 67), none, [], false⟩,
             ⟨(some 69), .ld1 (.t 68), none, [], false⟩,
             ⟨(some 70), .bin .sub (.t 66) (.t 69), none, [], false⟩,
             ⟨(some 71), .fad 0 (.t 8), none, [], false⟩,
             ⟨(some 72), .fad 0 (.t 71), none, [], false⟩,
             ⟨(some 73), .ld1 (.t 72), none, [], false⟩,
             ⟨(some 74), .fad 0 (.t 7), none, [], false⟩,
             ⟨(some 75), .fad 0 (.t 74), none, [], false⟩,
             ⟨(some 76), .ld1 (.t 75), none, [], false⟩,
             ⟨(some 77), .bin .sub (.t 73) (.t 76), none, [], false⟩,
             ⟨(some 9), .mv (.t 70), none, [], false⟩,
             ⟨(some 10), .mv (.t 77), none, [], false⟩])
           (.seq (.reg [
              ⟨(some 79), .fad 0 (.t 7), none, [], false⟩,
              ⟨(some 80), .fad 1 (.t 79), none, [], false⟩,
              ⟨(some 81), .ldn 2 (.t 80), none, [], false⟩,
              ⟨(some 82), .fad 0 (.t 8), none, [], false⟩,
              ⟨(some 83), .fad 1 (.t 82), none, [], false⟩,
              ⟨(some 84), .ldn 2 (.t 83), none, [], false⟩,
              ⟨(some 85), .mv (.t 9), none, [], false⟩,
              ⟨(some 86), .mv (.t 10), none, [], false⟩,
              ⟨(some 87), .call (.k (.fn 77 [])) [(.t 81), (.t 84), (.t 85), (.t 86)], none, [], false⟩,
              ⟨(some 78), .mv (.t 87), none, [], false⟩,
              ⟨(some 88), .ext (.t 78) 0, none, [], false⟩,
              ⟨(some 89), .ext (.t 78) 1, none, [], false⟩,
              ⟨(some 11), .new [.int .i64 0, .int .i64 0], none, [], false⟩,
              ⟨none, .st 2 (.t 11) (.t 88), none, [], false⟩,
              ⟨(some 12), .mv (.t 89), none, [], false⟩])
            (.seq (.reg [
               ⟨(some 90), .mv (.t 1), none, [], false⟩,
               ⟨(some 91), .ldn 2 (.t 11), none, [], false⟩,
               ⟨(some 92), .fad 0 (.t 7), none, [], false⟩,
               ⟨(some 93), .fad 3 (.t 92), none, [], false⟩,
               ⟨(some 94), .ld1 (.t 93), none, [], false⟩,
               ⟨(some 95), .fad 0 (.t 8), none, [], false⟩,
               ⟨(some 96), .fad 3 (.t 95), none, [], false⟩,
               ⟨(some 97), .ld1 (.t 96), none, [], false⟩,
               ⟨(some 98), .mv (.t 9), none, [], false⟩,
               ⟨(some 99), .mv (.t 10), none, [], false⟩,
               ⟨(some 102), .fad 4 (.t 7), none, [], false⟩,
               ⟨(some 103), .ld1 (.t 102), none, [], false⟩,
               ⟨(some 104), .fad 4 (.t 8), none, [], false⟩,
               ⟨(some 105), .ld1 (.t 104), none, [], false⟩,
               ⟨(some 106), .mv (.t 9), none, [], false⟩,
               ⟨(some 107), .mv (.t 10), none, [], false⟩,
               ⟨(some 109), .fad 5 (.t 7), none, [], false⟩,
               ⟨(some 110), .ld1 (.t 109), none, [], false⟩,
               ⟨(some 111), .fad 5 (.t 8), none, [], false⟩,
               ⟨(some 112), .ld1 (.t 111), none, [], false⟩,
               ⟨(some 113), .mv (.t 9), none, [], false⟩,
               ⟨(some 114), .mv (.t 10), none, [], false⟩,
               ⟨(some 100), .call (.k (.fn 78 [])) [(.t 94), (.t 97), (.t 98), (.t 99)], none, [], true⟩,
               ⟨(some 101), .mk [.int .i64 0, .int .i64 0, .int .i64 0, .int .i64 0] [(0, 1, (.t 90)), (1, 2, (.t 91)), (3, 1, (.t 100))], none, [], false⟩,
               ⟨(some 108), .call (.k (.fn 79 [])) [(.t 103), (.t 105), (.t 106), (.t 107)], none, [], true⟩,
               ⟨(some 115), .call (.k (.fn 79 [])) [(.t 110), (.t 112), (.t 113), (.t 114)], none, [], true⟩,
               ⟨(some 116), .mk [.int .i64 0, .int .i64 0, .int .i64 0, .int .i64 0, .int .i64 0, .int .i64 0] [(0, 4, (.t 101)), (4, 1, (.t 108)), (5, 1, (.t 115))], none, [], false⟩,
               ⟨none, .st 6 (.t 4) (.t 116), none, [], false⟩,
               ⟨(some 5), .mv (.k (.int .i64 0)), none, [], false⟩])
             (.ret))))))))))
/-- skyway/tube.At -/
def c39 : CF where
  np := 2
  nt := 18
  res := [.cn 6 4, .t 5]
  code := .seq (.reg [
      ⟨(some 4), .new [.int .i64 0, .int .i64 0, .int .i64 0, .int .i64 0, .int .i64 0, .int .i64 0], none, [], false⟩,
      ⟨(some 5), .mv (.k (.int .i64 0)), none, [], false⟩])
    (.seq (.seq (.reg [
        ⟨(some 7), .mv (.t 0), none, [], false⟩,
        ⟨(some 8), .call (.k (.fn 38 [])) [(.t 7)], none, [], false⟩,
        ⟨(some 6), .mv (.t 8), none, [], false⟩])
      (.seq (.reg [
         ⟨(some 9), .mv (.t 6), none, [], false⟩,
         ⟨(some 10), .bin .neq (.t 9) (.k (.int .i64 0)), none, [], false⟩])
       (.cond (.t 10) (.seq (.reg [
           ⟨(some 11), .mk [.int .i64 0, .int .i64 0, .int .i64 0, .int .i64 0, .int .i64 0, .int .i64 0] [], none, [], false⟩,
           ⟨(some 12), .mv (.t 6), none, [], false⟩,
           ⟨none, .st 6 (.t 4) (.t 11), none, [], false⟩,
           ⟨(some 5), .mv (.t 12), none, [], false⟩])
         (.ret))
        (.skip))))
     (.seq (.reg [
        ⟨(some 13), .mv (.t 0), none, [], false⟩,
        ⟨(some 14), .mv (.t 1), none, [], false⟩,
        ⟨(some 15), .call (.k (.fn 66 [])) [(.t 13), (.t 14)], none, [], false⟩,
        ⟨(some 16), .ext (.t 15) 0, none, [], false⟩,
        ⟨(some 17), .ext (.t 15) 1, none, [], false⟩,
        ⟨none, .st 6 (.t 4) (.t 16), none, [], false⟩,
        ⟨(some 5), .mv (.t 17), none, [], false⟩])
      (.ret)))
/-- skyway/pair.square -/
def c62 : CF where
  np := 2
  nt := 28
  res := [.t 4]
  code := .seq (.reg [
      ⟨(some 2), .box (.t 0), none, [], false⟩,
      ⟨(some 3), .box (.t 1), none, [], false⟩,
      ⟨(some 4), .mv (.k (.int .i64 0)), none, [], false⟩])
    (.seq (.reg [
       ⟨(some 5), .fad 0 (.t 2), none, [], false⟩,
       ⟨(some 6), .ld1 (.t 5), none, [], false⟩,
       ⟨(some 7), .fad 0 (.t 3), none, [], false⟩,
       ⟨(some 8), .ld1 (.t 7), none, [], false⟩,
       ⟨(some 9), .bin .sub (.t 6) (.t 8), none, [], false⟩,
       ⟨(some 10), .fad 0 (.t 2), none, [], false⟩,
       ⟨(some 11), .ld1 (.t 10), none, [], false⟩,
       ⟨(some 12), .fad 0 (.t 3), none, [], false⟩,
       ⟨(some 13), .ld1 (.t 12), none, [], false⟩,
       ⟨(some 14), .bin .sub (.t 11) (.t 13), none, [], false⟩,
       ⟨(some 15), .bin .mul (.t 9) (.t 14), none, [], false⟩,
       ⟨(some 16), .fad 1 (.t 2), none, [], false⟩,
       ⟨(some 17), .ld1 (.t 16), none, [], false⟩,
       ⟨(some 18), .fad 1 (.t 3), none, [], false⟩,
       ⟨(some 19), .ld1 (.t 18), none, [], false⟩,
       ⟨(some 20), .bin .sub (.t 17) (.t 19), none, [], false⟩,
       ⟨(some 21), .fad 1 (.t 2), none, [], false⟩,
       ⟨(some 22), .ld1 (.t 21), none, [], false⟩,
       ⟨(some 23), .fad 1 (.t 3), none, [], false⟩,
       ⟨(some 24), .ld1 (.t 23), none, [], false⟩,
       ⟨(some 25), .bin .sub (.t 22) (.t 24), none, [], false⟩,
       ⟨(some 26), .bin .mul (.t 20) (.t 25), none, [], false⟩,
       ⟨(some 27), .bin .add (.t 15) (.t 26), none, [], false⟩,
       ⟨(some 4), .mv (.t 27), none, [], false⟩])
     (.ret))
/-- skyway/pair.Fits -/
def c34 : CF where
  np := 2
  nt := 64
  res := [.t 4, .t 5]
  code := .seq (.reg [
      ⟨(some 2), .box (.t 0), none, [], false⟩,
      ⟨(some 4), .mv (.k (.bool false)), none, [], false⟩,
      ⟨(some 5), .mv (.k (.int .i64 0)), none, [], false⟩])
    (.seq (.seq (.reg [
        ⟨(some 11), .ldn 13 (.t 2), none, [], false⟩,
        ⟨(some 12), .call (.k (.fn 61 [])) [(.t 11)], none, [], false⟩,
        ⟨(some 6), .mv (.t 12), none, [], false⟩])
      (.seq (.reg [
         ⟨(some 13), .mv (.t 6), none, [], false⟩,
         ⟨(some 14), .bin .neq (.t 13) (.k (.int .i64 0)), none, [], false⟩])
       (.cond (.t 14) (.seq (.reg [
           ⟨(some 15), .mv (.t 6), none, [], false⟩,
           ⟨(some 4), .mv (.k (.bool false)), none, [], false⟩,
           ⟨(some 5), .mv (.t 15), none, [], false⟩])
         (.ret))
        (.skip))))
     (.seq (.seq (.reg [
         ⟨(some 16), .mv (.t 1), none, [], false⟩,
         ⟨(some 17), .call (.k (.fn 38 [])) [(.t 16)], none, [], false⟩,
         ⟨(some 7), .mv (.t 17), none, [], false⟩])
       (.seq (.reg [
          ⟨(some 18), .mv (.t 7), none, [], false⟩,
          ⟨(some 19), .bin .neq (.t 18) (.k (.int .i64 0)), none, [], false⟩])
        (.cond (.t 19) (.seq (.reg [
            ⟨(some 20), .mv (.t 7), none, [], false⟩,
            ⟨(some 4), .mv (.k (.bool false)), none, [], false⟩,
            ⟨(some 5), .mv (.t 20), none, [], false⟩])
          (.ret))
         (.skip))))
      (.seq (.reg [
         ⟨(some 22), .mv (.t 1), none, [], false⟩,
         ⟨(some 23), .fad 2 (.t 2), none, [], false⟩,
         ⟨(some 24), .ld1 (.t 23), none, [], false⟩,
         ⟨(some 25), .call (.k (.fn 39 [])) [(.t 22), (.t 24)], none, [], false⟩,
         ⟨(some 21), .mv (.t 25), none, [], false⟩,
         ⟨(some 26), .ext (.t 21) 0, none, [], false⟩,
         ⟨(some 27), .ext (.t 21) 1, none, [], false⟩,
         ⟨(some 8), .new [.int .i64 0, .int .i64 0, .int .i64 0, .int .i64 0, .int .i64 0, .int .i64 0], none, [], false⟩,
         ⟨none, .st 6 (.t 8) (.t 26), none, [], false⟩,
         ⟨(some 9), .mv (.t 27), none, [], false⟩])
       (.seq (.seq (.reg [
           ⟨(some 28), .mv (.t 9), none, [], false⟩,
           ⟨(some 29), .bin .neq (.t 28) (.k (.int .i64 0)), none, [], false⟩])
         (.cond (.t 29) (.seq (.reg [
             ⟨(some 4), .mv (.k (.bool false)), none, [], false⟩,
             ⟨(some 5), .mv (.k (.int .i64 0)), none, [], false⟩])
           (.ret))
          (.skip)))
        (.seq (.reg [
           ⟨(some 30), .fad 4 (.t 8), none, [], false⟩,
           ⟨(some 31), .ld1 (.t 30), none, [], false⟩,
           ⟨(some 32), .fad 9 (.t 2), none, [], false⟩,
           ⟨(some 33), .ld1 (.t 32), none, [], false⟩,
           ⟨(some 34), .bin .add (.t 31) (.t 33), none, [], false⟩,
           ⟨(some 10), .mv (.t 34), none, [], false⟩])
         (.seq (.reg [
            ⟨(some 35), .fad 0 (.t 8), none, [], false⟩,
            ⟨(some 36), .fad 1 (.t 35), none, [], false⟩,
            ⟨(some 37), .ldn 2 (.t 36), none, [], false⟩,
            ⟨(some 38), .fad 3 (.t 2), none, [], false⟩,
            ⟨(some 39), .ldn 2 (.t 38), none, [], false⟩,
            ⟨(some 40), .call (.k (.fn 62 [])) [(.t 37), (.t 39)], none, [], false⟩,
            ⟨(some 41), .mv (.t 10), none, [], false⟩,
            ⟨(some 42), .mv (.t 10), none, [], false⟩,
            ⟨(some 43), .bin .mul (.t 41) (.t 42), none, [], false⟩,
            ⟨(some 44), .bin .leq (.t 40) (.t 43), none, [], false⟩,
            ⟨(some 45), .mv (.t 44), none, [], false⟩,
            ⟨(some 46), .fad 0 (.t 8), (some (45, true)), [], false⟩,
            ⟨(some 47), .fad 3 (.t 46), (some (45, true)), [], false⟩,
            ⟨(some 48), .ld1 (.t 47), (some (45, true)), [], false⟩,
            ⟨(some 49), .fad 7 (.t 2), (some (45, true)), [], false⟩,
            ⟨(some 50), .ld1 (.t 49), (some (45, true)), [], false⟩,
            ⟨(some 51), .bin .sub (.t 48) (.t 50), (some (45, true)), [], false⟩,
            ⟨(some 52), .fad 7 (.t 2), (some (45, true)), [], false⟩,
            ⟨(some 53), .ld1 (.t 52), (some (45, true)), [], false⟩,
            ⟨(some 54), .fad 0 (.t 8), (some (45, true)), [], false⟩,
            ⟨(some 55), .fad 3 (.t 54), (some (45, true)), [], false⟩,
            ⟨(some 56), .ld1 (.t 55), (some (45, true)), [], false⟩,
            ⟨(some 57), .bin .sub (.t 53) (.t 56), (some (45, true)), [], false⟩,
            ⟨(some 58), .mnx true (.t 51) [(.t 57)], (some (45, true)), [], false⟩,
            ⟨(some 59), .fad 5 (.t 8), (some (45, true)), [], false⟩,
            ⟨(some 60), .ld1 (.t 59), (some (45, true)), [], false⟩,
            ⟨(some 61), .bin .add (.t 60) (.k (.int .i64 100)), (some (45, true)), [], false⟩,
            ⟨(some 62), .bin .leq (.t 58) (.t 61), (some (45, true)), [], false⟩,
            ⟨(some 63), .pick (.t 45) (.t 62) (.k (.bool false)), none, [], false⟩,
            ⟨(some 4), .mv (.t 63), none, [], false⟩,
            ⟨(some 5), .mv (.k (.int .i64 0)), none, [], false⟩])
          (.ret)))))))
/-- skyway/plane.Sub -/
def c82 : CF where
  np := 2
  nt := 16
  res := [.cn 2 4]
  code := .seq (.reg [
      ⟨(some 2), .box (.t 0), none, [], false⟩,
      ⟨(some 3), .box (.t 1), none, [], false⟩,
      ⟨(some 4), .new [.int .i64 0, .int .i64 0], none, [], false⟩])
    (.seq (.reg [
       ⟨(some 5), .fad 0 (.t 2), none, [], false⟩,
       ⟨(some 6), .ld1 (.t 5), none, [], false⟩,
       ⟨(some 7), .fad 0 (.t 3), none, [], false⟩,
       ⟨(some 8), .ld1 (.t 7), none, [], false⟩,
       ⟨(some 9), .bin .sub (.t 6) (.t 8), none, [], false⟩,
       ⟨(some 10), .fad 1 (.t 2), none, [], false⟩,
       ⟨(some 11), .ld1 (.t 10), none, [], false⟩,
       ⟨(some 12), .fad 1 (.t 3), none, [], false⟩,
       ⟨(some 13), .ld1 (.t 12), none, [], false⟩,
       ⟨(some 14), .bin .sub (.t 11) (.t 13), none, [], false⟩,
       ⟨(some 15), .mk [.int .i64 0, .int .i64 0] [(0, 1, (.t 9)), (1, 1, (.t 14))], none, [], false⟩,
       ⟨none, .st 2 (.t 4) (.t 15), none, [], false⟩])
     (.ret))
/-- skyway/plane.Dot -/
def c83 : CF where
  np := 2
  nt := 16
  res := [.t 4]
  code := .seq (.reg [
      ⟨(some 2), .box (.t 0), none, [], false⟩,
      ⟨(some 3), .box (.t 1), none, [], false⟩,
      ⟨(some 4), .mv (.k (.int .i64 0)), none, [], false⟩])
    (.seq (.reg [
       ⟨(some 5), .fad 0 (.t 2), none, [], false⟩,
       ⟨(some 6), .ld1 (.t 5), none, [], false⟩,
       ⟨(some 7), .fad 0 (.t 3), none, [], false⟩,
       ⟨(some 8), .ld1 (.t 7), none, [], false⟩,
       ⟨(some 9), .bin .mul (.t 6) (.t 8), none, [], false⟩,
       ⟨(some 10), .fad 1 (.t 2), none, [], false⟩,
       ⟨(some 11), .ld1 (.t 10), none, [], false⟩,
       ⟨(some 12), .fad 1 (.t 3), none, [], false⟩,
       ⟨(some 13), .ld1 (.t 12), none, [], false⟩,
       ⟨(some 14), .bin .mul (.t 11) (.t 13), none, [], false⟩,
       ⟨(some 15), .bin .add (.t 9) (.t 14), none, [], false⟩,
       ⟨(some 4), .mv (.t 15), none, [], false⟩])
     (.ret))
/-- skyway/plane.Square -/
def c76 : CF where
  np := 2
  nt := 12
  res := [.t 4]
  code := .seq (.reg [
      ⟨(some 2), .box (.t 0), none, [], false⟩,
      ⟨(some 3), .box (.t 1), none, [], false⟩,
      ⟨(some 4), .mv (.k (.int .i64 0)), none, [], false⟩])
    (.seq (.reg [
       ⟨(some 6), .ldn 2 (.t 2), none, [], false⟩,
       ⟨(some 7), .ldn 2 (.t 3), none, [], false⟩,
       ⟨(some 8), .call (.k (.fn 82 [])) [(.t 6), (.t 7)], none, [], false⟩,
       ⟨(some 5), .new [.int .i64 0, .int .i64 0], none, [], false⟩,
       ⟨none, .st 2 (.t 5) (.t 8), none, [], false⟩])
     (.seq (.reg [
        ⟨(some 9), .ldn 2 (.t 5), none, [], false⟩,
        ⟨(some 10), .ldn 2 (.t 5), none, [], false⟩,
        ⟨(some 11), .call (.k (.fn 83 [])) [(.t 9), (.t 10)], none, [], false⟩,
        ⟨(some 4), .mv (.t 11), none, [], false⟩])
      (.ret)))
/-- skyway/plane.Within -/
def c64 : CF where
  np := 3
  nt := 22
  res := [.t 6]
  code := .seq (.reg [
      ⟨(some 3), .box (.t 0), none, [], false⟩,
      ⟨(some 4), .box (.t 1), none, [], false⟩,
      ⟨(some 6), .mv (.k (.bool false)), none, [], false⟩])
    (.seq (.reg [
       ⟨(some 7), .mv (.t 2), none, [], false⟩,
       ⟨(some 8), .bin .geq (.t 7) (.k (.int .i64 0)), none, [], false⟩,
       ⟨(some 9), .mv (.t 8), none, [], false⟩,
       ⟨(some 10), .mv (.t 2), (some (9, true)), [], false⟩,
       ⟨(some 11), .bin .leq (.t 10) (.k (.int .i64 8000000)), (some (9, true)), [], false⟩,
       ⟨(some 12), .pick (.t 9) (.t 11) (.k (.bool false)), none, [], false⟩,
       ⟨(some 13), .mv (.t 12), none, [], false⟩,
       ⟨(some 14), .ldn 2 (.t 3), (some (13, true)), [], false⟩,
       ⟨(some 15), .ldn 2 (.t 4), (some (13, true)), [], false⟩,
       ⟨(some 16), .call (.k (.fn 76 [])) [(.t 14), (.t 15)], (some (13, true)), [], false⟩,
       ⟨(some 17), .mv (.t 2), (some (13, true)), [], false⟩,
       ⟨(some 18), .mv (.t 2), (some (13, true)), [], false⟩,
       ⟨(some 19), .bin .mul (.t 17) (.t 18), (some (13, true)), [], false⟩,
       ⟨(some 20), .bin .leq (.t 16) (.t 19), (some (13, true)), [], false⟩,
       ⟨(some 21), .pick (.t 13) (.t 20) (.k (.bool false)), none, [], false⟩,
       ⟨(some 6), .mv (.t 21), none, [], false⟩])
     (.ret))
/-- skyway/tube.Has -/
def c36 : CF where
  np := 4
  nt := 56
  res := [.t 8, .t 9]
  code := .seq (.reg [
      ⟨(some 6), .box (.t 2), none, [], false⟩,
      ⟨(some 8), .mv (.k (.bool false)), none, [], false⟩,
      ⟨(some 9), .mv (.k (.int .i64 0)), none, [], false⟩])
    (.seq (.reg [
       ⟨(some 14), .mv (.t 0), none, [], false⟩,
       ⟨(some 15), .mv (.t 1), none, [], false⟩,
       ⟨(some 16), .call (.k (.fn 39 [])) [(.t 14), (.t 15)], none, [], false⟩,
       ⟨(some 13), .mv (.t 16), none, [], false⟩,
       ⟨(some 17), .ext (.t 13) 0, none, [], false⟩,
       ⟨(some 18), .ext (.t 13) 1, none, [], false⟩,
       ⟨(some 10), .new [.int .i64 0, .int .i64 0, .int .i64 0, .int .i64 0, .int .i64 0, .int .i64 0], none, [], false⟩,
       ⟨none, .st 6 (.t 10) (.t 17), none, [], false⟩,
       ⟨(some 11), .mv (.t 18), none, [], false⟩])
     (.seq (.seq (.reg [
         ⟨(some 19), .mv (.t 11), none, [], false⟩,
         ⟨(some 20), .bin .neq (.t 19) (.k (.int .i64 0)), none, [], false⟩])
       (.cond (.t 20) (.seq (.reg [
           ⟨(some 21), .mv (.t 11), none, [], false⟩,
           ⟨(some 8), .mv (.k (.bool false)), none, [], false⟩,
           ⟨(some 9), .mv (.t 21), none, [], false⟩])
         (.ret))
        (.skip)))
      (.seq (.seq (.reg [
          ⟨(some 22), .ldn 2 (.t 6), none, [], false⟩,
          ⟨(some 23), .call (.k (.fn 63 [])) [(.t 22)], none, [], false⟩,
          ⟨(some 12), .mv (.t 23), none, [], false⟩])
        (.seq (.reg [
           ⟨(some 24), .mv (.t 12), none, [], false⟩,
           ⟨(some 25), .bin .neq (.t 24) (.k (.int .i64 0)), none, [], false⟩])
         (.cond (.t 25) (.seq (.reg [
             ⟨(some 26), .mv (.t 12), none, [], false⟩,
             ⟨(some 8), .mv (.k (.bool false)), none, [], false⟩,
             ⟨(some 9), .mv (.t 26), none, [], false⟩])
           (.ret))
          (.skip))))
       (.seq (.seq (.reg [
           ⟨(some 27), .mv (.t 3), none, [], false⟩,
           ⟨(some 28), .bin .lss (.t 27) (.k (.int .i64 0)), none, [], false⟩,
           ⟨(some 29), .mv (.t 28), none, [], false⟩,
           ⟨(some 30), .mv (.t 3), (some (29, false)), [], false⟩,
           ⟨(some 31), .bin .gtr (.t 30) (.k (.int .i64 60000)), (some (29, false)), [], false⟩,
           ⟨(some 32), .pick (.t 29) (.k (.bool true)) (.t 31), none, [], false⟩])
         (.cond (.t 32) (.seq (.reg [
             ⟨(some 8), .mv (.k (.bool false)), none, [], false⟩,
             ⟨(some 9), .mv (.k (.int .i64 4)), none, [], false⟩])
           (.ret))
          (.skip)))
        (.seq (.reg [
           ⟨(some 33), .fad 0 (.t 10), none, [], false⟩,
           ⟨(some 34), .fad 1 (.t 33), none, [], false⟩,
           ⟨(some 35), .ldn 2 (.t 34), none, [], false⟩,
           ⟨(some 36), .ldn 2 (.t 6), none, [], false⟩,
           ⟨(some 37), .fad 4 (.t 10), none, [], false⟩,
           ⟨(some 38), .ld1 (.t 37), none, [], false⟩,
           ⟨(some 39), .call (.k (.fn 64 [])) [(.t 35), (.t 36), (.t 38)], none, [], false⟩,
           ⟨(some 40), .mv (.t 39), none, [], false⟩,
           ⟨(some 41), .mv (.t 3), (some (40, true)), [], false⟩,
           ⟨(some 42), .fad 0 (.t 10), (some (40, true)), [], false⟩,
           ⟨(some 43), .fad 3 (.t 42), (some (40, true)), [], false⟩,
           ⟨(some 44), .ld1 (.t 43), (some (40, true)), [], false⟩,
           ⟨(some 45), .bin .sub (.t 41) (.t 44), (some (40, true)), [], false⟩,
           ⟨(some 46), .fad 0 (.t 10), (some (40, true)), [], false⟩,
           ⟨(some 47), .fad 3 (.t 46), (some (40, true)), [], false⟩,
           ⟨(some 48), .ld1 (.t 47), (some (40, true)), [], false⟩,
           ⟨(some 49), .mv (.t 3), (some (40, true)), [], false⟩,
           ⟨(some 50), .bin .sub (.t 48) (.t 49), (some (40, true)), [], false⟩,
           ⟨(some 51), .mnx true (.t 45) [(.t 50)], (some (40, true)), [], false⟩,
           ⟨(some 52), .fad 5 (.t 10), (some (40, true)), [], false⟩,
           ⟨(some 53), .ld1 (.t 52), (some (40, true)), [], false⟩,
           ⟨(some 54), .bin .leq (.t 51) (.t 53), (some (40, true)), [], false⟩,
           ⟨(some 55), .pick (.t 40) (.t 54) (.k (.bool false)), none, [], false⟩,
           ⟨(some 8), .mv (.t 55), none, [], false⟩,
           ⟨(some 9), .mv (.k (.int .i64 0)), none, [], false⟩])
         (.ret))))))
/-- skyway/skywaykeep2.PairFits -/
def c11 : CF where
  np := 4
  nt := 76
  res := [.t 8]
  code := .seq (.reg [
      ⟨(some 4), .box (.t 0), none, [], false⟩,
      ⟨(some 6), .box (.t 2), none, [], false⟩,
      ⟨(some 8), .mv (.k (.bool false)), none, [], false⟩])
    (.seq (.reg [
       ⟨(some 17), .mk [.int .i64 0, .int .i64 0] [(0, 1, (.k (.int .i64 10000)))], none, [], false⟩,
       ⟨(some 18), .mk [.int .i64 0, .int .i64 0, .int .i64 0, .int .i64 0, .int .i64 0, .int .i64 0, .int .i64 0, .int .i64 0, .int .i64 0, .int .i64 0, .int .i64 0, .int .i64 0, .int .i64 0] [(2, 1, (.k (.int .i64 50))), (3, 2, (.t 17)), (7, 1, (.k (.int .i64 5000))), (10, 1, (.k (.int .i64 7)))], none, [], false⟩,
       ⟨(some 9), .new [.int .i64 0, .int .i64 0, .int .i64 0, .int .i64 0, .int .i64 0, .int .i64 0, .int .i64 0, .int .i64 0, .int .i64 0, .int .i64 0, .int .i64 0, .int .i64 0, .int .i64 0], none, [], false⟩,
       ⟨none, .st 13 (.t 9) (.t 18), none, [], false⟩])
     (.seq (.seq (.reg [
         ⟨(some 20), .ldn 13 (.t 9), none, [], false⟩,
         ⟨(some 21), .call (.k (.fn 35 [])) [(.k (.int .i64 100)), (.k (.int .i64 300))], none, [], true⟩,
         ⟨(some 22), .call (.k (.fn 34 [])) [(.t 20), (.t 21)], none, [], false⟩,
         ⟨(some 19), .mv (.t 22), none, [], false⟩,
         ⟨(some 23), .ext (.t 19) 0, none, [], false⟩,
         ⟨(some 24), .ext (.t 19) 1, none, [], false⟩,
         ⟨(some 10), .mv (.t 23), none, [], false⟩,
         ⟨(some 11), .mv (.t 24), none, [], false⟩])
       (.seq (.reg [
          ⟨(some 25), .mv (.t 11), none, [], false⟩,
          ⟨(some 26), .bin .neq (.t 25) (.k (.int .i64 0)), none, [], false⟩,
          ⟨(some 27), .mv (.t 26), none, [], false⟩,
          ⟨(some 28), .mv (.t 10), (some (27, false)), [], false⟩,
          ⟨(some 29), .un .not (.t 28), (some (27, false)), [], false⟩,
          ⟨(some 30), .pick (.t 27) (.k (.bool true)) (.t 29), none, [], false⟩])
        (.cond (.t 30) (.seq (.reg [
            ⟨(some 8), .mv (.k (.bool false)), none, [], false⟩])
          (.ret))
         (.skip))))
      (.seq (.reg [
         ⟨(some 32), .ldn 13 (.t 4), none, [], false⟩,
         ⟨(some 33), .mv (.t 1), none, [], false⟩,
         ⟨(some 34), .call (.k (.fn 34 [])) [(.t 32), (.t 33)], none, [], false⟩,
         ⟨(some 31), .mv (.t 34), none, [], false⟩,
         ⟨(some 35), .ext (.t 31) 0, none, [], false⟩,
         ⟨(some 36), .ext (.t 31) 1, none, [], false⟩,
         ⟨(some 12), .mv (.t 35), none, [], false⟩,
         ⟨(some 13), .mv (.t 36), none, [], false⟩])
       (.seq (.seq (.reg [
           ⟨(some 37), .mv (.t 13), none, [], false⟩,
           ⟨(some 38), .bin .neq (.t 37) (.k (.int .i64 0)), none, [], false⟩])
         (.cond (.t 38) (.seq (.reg [
             ⟨(some 39), .mv (.t 12), none, [], false⟩,
             ⟨(some 40), .un .not (.t 39), none, [], false⟩,
             ⟨(some 8), .mv (.t 40), none, [], false⟩])
           (.ret))
          (.skip)))
        (.seq (.reg [
           ⟨(some 41), .fad 7 (.t 4), none, [], false⟩,
           ⟨(some 42), .ld1 (.t 41), none, [], false⟩,
           ⟨(some 43), .mv (.t 3), none, [], false⟩,
           ⟨(some 44), .call (.k (.fn 16 [])) [(.t 43), (.k (.int .i64 (-100))), (.k (.int .i64 100))], none, [], true⟩,
           ⟨(some 45), .bin .add (.t 42) (.t 44), none, [], false⟩,
           ⟨(some 14), .mv (.t 45), none, [], false⟩])
         (.seq (.reg [
            ⟨(some 47), .mv (.t 1), none, [], false⟩,
            ⟨(some 48), .fad 2 (.t 4), none, [], false⟩,
            ⟨(some 49), .ld1 (.t 48), none, [], false⟩,
            ⟨(some 50), .ldn 2 (.t 6), none, [], false⟩,
            ⟨(some 51), .mv (.t 14), none, [], false⟩,
            ⟨(some 52), .call (.k (.fn 36 [])) [(.t 47), (.t 49), (.t 50), (.t 51)], none, [], false⟩,
            ⟨(some 46), .mv (.t 52), none, [], false⟩,
            ⟨(some 53), .ext (.t 46) 0, none, [], false⟩,
            ⟨(some 54), .ext (.t 46) 1, none, [], false⟩,
            ⟨(some 15), .mv (.t 53), none, [], false⟩,
            ⟨(some 16), .mv (.t 54), none, [], false⟩])
          (.seq (.reg [
             ⟨(some 55), .mv (.t 16), none, [], false⟩,
             ⟨(some 56), .bin .neq (.t 55) (.k (.int .i64 0)), none, [], false⟩,
             ⟨(some 57), .mv (.t 56), none, [], false⟩,
             ⟨(some 58), .mv (.t 15), (some (57, false)), [], false⟩,
             ⟨(some 59), .un .not (.t 58), (some (57, false)), [], false⟩,
             ⟨(some 60), .pick (.t 57) (.k (.bool true)) (.t 59), none, [], false⟩,
             ⟨(some 61), .mv (.t 60), none, [], false⟩,
             ⟨(some 62), .ldn 2 (.t 6), (some (61, false)), [], false⟩,
             ⟨(some 63), .fad 3 (.t 4), (some (61, false)), [], false⟩,
             ⟨(some 64), .ldn 2 (.t 63), (some (61, false)), [], false⟩,
             ⟨(some 66), .fad 9 (.t 4), (some (61, false)), [], false⟩,
             ⟨(some 67), .ld1 (.t 66), (some (61, false)), [], false⟩,
             ⟨(some 68), .fad 9 (.t 4), (some (61, false)), [], false⟩,
             ⟨(some 69), .ld1 (.t 68), (some (61, false)), [], false⟩,
             ⟨(some 70), .bin .mul (.t 67) (.t 69), (some (61, false)), [], false⟩,
             ⟨(some 65), .call (.k (.fn 33 [])) [(.t 62), (.t 64)], (some (61, false)), [], true⟩,
             ⟨(some 71), .bin .gtr (.t 65) (.t 70), (some (61, false)), [], false⟩,
             ⟨(some 72), .pick (.t 61) (.k (.bool true)) (.t 71), none, [], false⟩,
             ⟨(some 73), .mv (.t 72), none, [], false⟩,
             ⟨(some 74), .mv (.t 12), (some (73, false)), [], false⟩,
             ⟨(some 75), .pick (.t 73) (.k (.bool true)) (.t 74), none, [], false⟩,
             ⟨(some 8), .mv (.t 75), none, [], false⟩])
           (.ret))))))))
/-- skyway/conform.checkTrack -/
def c65 : CF where
  np := 1
  nt := 55
  res := [.t 2]
  code := .seq (.reg [
      ⟨(some 1), .box (.t 0), none, [], false⟩,
      ⟨(some 2), .mv (.k (.int .i64 0)), none, [], false⟩])
    (.seq (.seq (.reg [
        ⟨(some 3), .fad 2 (.t 1), none, [], false⟩,
        ⟨(some 4), .ld1 (.t 3), none, [], false⟩,
        ⟨(some 5), .bin .lss (.t 4) (.k (.int .i64 0)), none, [], false⟩,
        ⟨(some 6), .mv (.t 5), none, [], false⟩,
        ⟨(some 7), .fad 2 (.t 1), (some (6, false)), [], false⟩,
        ⟨(some 8), .ld1 (.t 7), (some (6, false)), [], false⟩,
        ⟨(some 9), .bin .gtr (.t 8) (.k (.int .i64 200000)), (some (6, false)), [], false⟩,
        ⟨(some 10), .pick (.t 6) (.k (.bool true)) (.t 9), none, [], false⟩,
        ⟨(some 11), .mv (.t 10), none, [], false⟩,
        ⟨(some 12), .fad 3 (.t 1), (some (11, false)), [], false⟩,
        ⟨(some 13), .fad 0 (.t 12), (some (11, false)), [], false⟩,
        ⟨(some 14), .ld1 (.t 13), (some (11, false)), [], false⟩,
        ⟨(some 15), .bin .lss (.t 14) (.k (.int .i64 (-1000000))), (some (11, false)), [], false⟩,
        ⟨(some 16), .pick (.t 11) (.k (.bool true)) (.t 15), none, [], false⟩,
        ⟨(some 17), .mv (.t 16), none, [], false⟩,
        ⟨(some 18), .fad 3 (.t 1), (some (17, false)), [], false⟩,
        ⟨(some 19), .fad 0 (.t 18), (some (17, false)), [], false⟩,
        ⟨(some 20), .ld1 (.t 19), (some (17, false)), [], false⟩,
        ⟨(some 21), .bin .gtr (.t 20) (.k (.int .i64 1000000)), (some (17, false)), [], false⟩,
        ⟨(some 22), .pick (.t 17) (.k (.bool true)) (.t 21), none, [], false⟩,
        ⟨(some 23), .mv (.t 22), none, [], false⟩,
        ⟨(some 24), .fad 3 (.t 1), (some (23, false)), [], false⟩,
        ⟨(some 25), .fad 1 (.t 24), (some (23, false)), [], false⟩,
        ⟨(some 26), .ld1 (.t 25), (some (23, false)), [], false⟩,
        ⟨(some 27), .bin .lss (.t 26) (.k (.int .i64 (-1000000))), (some (23, false)), [], false⟩,
        ⟨(some 28), .pick (.t 23) (.k (.bool true)) (.t 27), none, [], false⟩,
        ⟨(some 29), .mv (.t 28), none, [], false⟩,
        ⟨(some 30), .fad 3 (.t 1), (some (29, false)), [], false⟩,
        ⟨(some 31), .fad 1 (.t 30), (some (29, false)), [], false⟩,
        ⟨(some 32), .ld1 (.t 31), (some (29, false)), [], false⟩,
        ⟨(some 33), .bin .gtr (.t 32) (.k (.int .i64 1000000)), (some (29, false)), [], false⟩,
        ⟨(some 34), .pick (.t 29) (.k (.bool true)) (.t 33), none, [], false⟩,
        ⟨(some 35), .mv (.t 34), none, [], false⟩,
        ⟨(some 36), .fad 7 (.t 1), (some (35, false)), [], false⟩,
        ⟨(some 37), .ld1 (.t 36), (some (35, false)), [], false⟩,
        ⟨(some 38), .bin .lss (.t 37) (.k (.int .i64 0)), (some (35, false)), [], false⟩,
        ⟨(some 39), .pick (.t 35) (.k (.bool true)) (.t 38), none, [], false⟩,
        ⟨(some 40), .mv (.t 39), none, [], false⟩,
        ⟨(some 41), .fad 7 (.t 1), (some (40, false)), [], false⟩,
        ⟨(some 42), .ld1 (.t 41), (some (40, false)), [], false⟩,
        ⟨(some 43), .bin .gtr (.t 42) (.k (.int .i64 60000)), (some (40, false)), [], false⟩,
        ⟨(some 44), .pick (.t 40) (.k (.bool true)) (.t 43), none, [], false⟩,
        ⟨(some 45), .mv (.t 44), none, [], false⟩,
        ⟨(some 46), .fad 9 (.t 1), (some (45, false)), [], false⟩,
        ⟨(some 47), .ld1 (.t 46), (some (45, false)), [], false⟩,
        ⟨(some 48), .bin .lss (.t 47) (.k (.int .i64 0)), (some (45, false)), [], false⟩,
        ⟨(some 49), .pick (.t 45) (.k (.bool true)) (.t 48), none, [], false⟩,
        ⟨(some 50), .mv (.t 49), none, [], false⟩,
        ⟨(some 51), .fad 9 (.t 1), (some (50, false)), [], false⟩,
        ⟨(some 52), .ld1 (.t 51), (some (50, false)), [], false⟩,
        ⟨(some 53), .bin .gtr (.t 52) (.k (.int .i64 4000000)), (some (50, false)), [], false⟩,
        ⟨(some 54), .pick (.t 50) (.k (.bool true)) (.t 53), none, [], false⟩])
      (.cond (.t 54) (.seq (.reg [
          ⟨(some 2), .mv (.k (.int .i64 4)), none, [], false⟩])
        (.ret))
       (.skip)))
     (.seq (.reg [
        ⟨(some 2), .mv (.k (.int .i64 0)), none, [], false⟩])
      (.ret)))
/-- skyway/conform.node -/
def c67 : CF where
  np := 2
  nt := 19
  res := [.cn 6 4, .t 5]
  code := .seq (.reg [
      ⟨(some 2), .box (.t 0), none, [], false⟩,
      ⟨(some 4), .new [.int .i64 0, .int .i64 0, .int .i64 0, .int .i64 0, .int .i64 0, .int .i64 0], none, [], false⟩,
      ⟨(some 5), .mv (.k (.int .i64 0)), none, [], false⟩])
    (.seq (.seq (.reg [
        ⟨(some 7), .ldn 13 (.t 2), none, [], false⟩,
        ⟨(some 8), .call (.k (.fn 65 [])) [(.t 7)], none, [], false⟩,
        ⟨(some 6), .mv (.t 8), none, [], false⟩])
      (.seq (.reg [
         ⟨(some 9), .mv (.t 6), none, [], false⟩,
         ⟨(some 10), .bin .neq (.t 9) (.k (.int .i64 0)), none, [], false⟩])
       (.cond (.t 10) (.seq (.reg [
           ⟨(some 11), .mk [.int .i64 0, .int .i64 0, .int .i64 0, .int .i64 0, .int .i64 0, .int .i64 0] [], none, [], false⟩,
           ⟨(some 12), .mv (.t 6), none, [], false⟩,
           ⟨none, .st 6 (.t 4) (.t 11), none, [], false⟩,
           ⟨(some 5), .mv (.t 12), none, [], false⟩])
         (.ret))
        (.skip))))
     (.seq (.reg [
        ⟨(some 13), .mv (.t 1), none, [], false⟩,
        ⟨(some 14), .fad 2 (.t 2), none, [], false⟩,
        ⟨(some 15), .ld1 (.t 14), none, [], false⟩,
        ⟨(some 16), .call (.k (.fn 39 [])) [(.t 13), (.t 15)], none, [], false⟩,
        ⟨(some 17), .ext (.t 16) 0, none, [], false⟩,
        ⟨(some 18), .ext (.t 16) 1, none, [], false⟩,
        ⟨none, .st 6 (.t 4) (.t 17), none, [], false⟩,
        ⟨(some 5), .mv (.t 18), none, [], false⟩])
      (.ret)))
/-- skyway/conform.square -/
def c68 : CF where
  np := 2
  nt := 28
  res := [.t 4]
  code := .seq (.reg [
      ⟨(some 2), .box (.t 0), none, [], false⟩,
      ⟨(some 3), .box (.t 1), none, [], false⟩,
      ⟨(some 4), .mv (.k (.int .i64 0)), none, [], false⟩])
    (.seq (.reg [
       ⟨(some 5), .fad 0 (.t 2), none, [], false⟩,
       ⟨(some 6), .ld1 (.t 5), none, [], false⟩,
       ⟨(some 7), .fad 0 (.t 3), none, [], false⟩,
       ⟨(some 8), .ld1 (.t 7), none, [], false⟩,
       ⟨(some 9), .bin .sub (.t 6) (.t 8), none, [], false⟩,
       ⟨(some 10), .fad 0 (.t 2), none, [], false⟩,
       ⟨(some 11), .ld1 (.t 10), none, [], false⟩,
       ⟨(some 12), .fad 0 (.t 3), none, [], false⟩,
       ⟨(some 13), .ld1 (.t 12), none, [], false⟩,
       ⟨(some 14), .bin .sub (.t 11) (.t 13), none, [], false⟩,
       ⟨(some 15), .bin .mul (.t 9) (.t 14), none, [], false⟩,
       ⟨(some 16), .fad 1 (.t 2), none, [], false⟩,
       ⟨(some 17), .ld1 (.t 16), none, [], false⟩,
       ⟨(some 18), .fad 1 (.t 3), none, [], false⟩,
       ⟨(some 19), .ld1 (.t 18), none, [], false⟩,
       ⟨(some 20), .bin .sub (.t 17) (.t 19), none, [], false⟩,
       ⟨(some 21), .fad 1 (.t 2), none, [], false⟩,
       ⟨(some 22), .ld1 (.t 21), none, [], false⟩,
       ⟨(some 23), .fad 1 (.t 3), none, [], false⟩,
       ⟨(some 24), .ld1 (.t 23), none, [], false⟩,
       ⟨(some 25), .bin .sub (.t 22) (.t 24), none, [], false⟩,
       ⟨(some 26), .bin .mul (.t 20) (.t 25), none, [], false⟩,
       ⟨(some 27), .bin .add (.t 15) (.t 26), none, [], false⟩,
       ⟨(some 4), .mv (.t 27), none, [], false⟩])
     (.ret))
/-- skyway/conform.Compare -/
def c40 : CF where
  np := 2
  nt := 78
  res := [.t 4, .t 5]
  code := .seq (.reg [
      ⟨(some 2), .box (.t 0), none, [], false⟩,
      ⟨(some 4), .mv (.k (.int .i64 0)), none, [], false⟩,
      ⟨(some 5), .mv (.k (.int .i64 0)), none, [], false⟩])
    (.seq (.reg [
       ⟨(some 13), .ldn 13 (.t 2), none, [], false⟩,
       ⟨(some 14), .mv (.t 1), none, [], false⟩,
       ⟨(some 15), .call (.k (.fn 67 [])) [(.t 13), (.t 14)], none, [], false⟩,
       ⟨(some 12), .mv (.t 15), none, [], false⟩,
       ⟨(some 16), .ext (.t 12) 0, none, [], false⟩,
       ⟨(some 17), .ext (.t 12) 1, none, [], false⟩,
       ⟨(some 6), .new [.int .i64 0, .int .i64 0, .int .i64 0, .int .i64 0, .int .i64 0, .int .i64 0], none, [], false⟩,
       ⟨none, .st 6 (.t 6) (.t 16), none, [], false⟩,
       ⟨(some 7), .mv (.t 17), none, [], false⟩])
     (.seq (.seq (.reg [
         ⟨(some 18), .mv (.t 7), none, [], false⟩,
         ⟨(some 19), .bin .neq (.t 18) (.k (.int .i64 0)), none, [], false⟩])
       (.cond (.t 19) (.seq (.reg [
           ⟨(some 20), .mv (.t 7), none, [], false⟩,
           ⟨(some 4), .mv (.k (.int .i64 0)), none, [], false⟩,
           ⟨(some 5), .mv (.t 20), none, [], false⟩])
         (.ret))
        (.skip)))
      (.seq (.reg [
         ⟨(some 21), .fad 0 (.t 6), none, [], false⟩,
         ⟨(some 22), .fad 1 (.t 21), none, [], false⟩,
         ⟨(some 23), .ldn 2 (.t 22), none, [], false⟩,
         ⟨(some 24), .fad 3 (.t 2), none, [], false⟩,
         ⟨(some 25), .ldn 2 (.t 24), none, [], false⟩,
         ⟨(some 27), .fad 0 (.t 6), none, [], false⟩,
         ⟨(some 28), .fad 3 (.t 27), none, [], false⟩,
         ⟨(some 29), .ld1 (.t 28), none, [], false⟩,
         ⟨(some 30), .fad 7 (.t 2), none, [], false⟩,
         ⟨(some 31), .ld1 (.t 30), none, [], false⟩,
         ⟨(some 32), .bin .sub (.t 29) (.t 31), none, [], false⟩,
         ⟨(some 33), .fad 7 (.t 2), none, [], false⟩,
         ⟨(some 34), .ld1 (.t 33), none, [], false⟩,
         ⟨(some 35), .fad 0 (.t 6), none, [], false⟩,
         ⟨(some 36), .fad 3 (.t 35), none, [], false⟩,
         ⟨(some 37), .ld1 (.t 36), none, [], false⟩,
         ⟨(some 38), .bin .sub (.t 34) (.t 37), none, [], false⟩,
         ⟨(some 39), .mnx true (.t 32) [(.t 38)], none, [], false⟩,
         ⟨(some 26), .call (.k (.fn 68 [])) [(.t 23), (.t 25)], none, [], true⟩,
         ⟨(some 8), .mv (.t 26), none, [], false⟩,
         ⟨(some 9), .mv (.t 39), none, [], false⟩])
       (.seq (.reg [
          ⟨(some 40), .fad 4 (.t 6), none, [], false⟩,
          ⟨(some 41), .ld1 (.t 40), none, [], false⟩,
          ⟨(some 42), .fad 9 (.t 2), none, [], false⟩,
          ⟨(some 43), .ld1 (.t 42), none, [], false⟩,
          ⟨(some 44), .bin .add (.t 41) (.t 43), none, [], false⟩,
          ⟨(some 10), .mv (.t 44), none, [], false⟩])
        (.seq (.seq (.reg [
            ⟨(some 45), .mv (.t 8), none, [], false⟩,
            ⟨(some 46), .mv (.t 10), none, [], false⟩,
            ⟨(some 47), .mv (.t 10), none, [], false⟩,
            ⟨(some 48), .bin .mul (.t 46) (.t 47), none, [], false⟩,
            ⟨(some 49), .bin .gtr (.t 45) (.t 48), none, [], false⟩,
            ⟨(some 50), .mv (.t 49), none, [], false⟩,
            ⟨(some 51), .mv (.t 9), (some (50, false)), [], false⟩,
            ⟨(some 52), .fad 5 (.t 6), (some (50, false)), [], false⟩,
            ⟨(some 53), .ld1 (.t 52), (some (50, false)), [], false⟩,
            ⟨(some 54), .bin .add (.t 53) (.k (.int .i64 100)), (some (50, false)), [], false⟩,
            ⟨(some 55), .bin .gtr (.t 51) (.t 54), (some (50, false)), [], false⟩,
            ⟨(some 56), .pick (.t 50) (.k (.bool true)) (.t 55), none, [], false⟩])
          (.cond (.t 56) (.seq (.reg [
              ⟨(some 4), .mv (.k (.int .i64 2)), none, [], false⟩,
              ⟨(some 5), .mv (.k (.int .i64 0)), none, [], false⟩])
            (.ret))
           (.skip)))
         (.seq (.reg [
            ⟨(some 57), .fad 4 (.t 6), none, [], false⟩,
            ⟨(some 58), .ld1 (.t 57), none, [], false⟩,
            ⟨(some 59), .fad 9 (.t 2), none, [], false⟩,
            ⟨(some 60), .ld1 (.t 59), none, [], false⟩,
            ⟨(some 61), .bin .sub (.t 58) (.t 60), none, [], false⟩,
            ⟨(some 11), .mv (.t 61), none, [], false⟩])
          (.seq (.seq (.reg [
              ⟨(some 62), .mv (.t 11), none, [], false⟩,
              ⟨(some 63), .bin .geq (.t 62) (.k (.int .i64 0)), none, [], false⟩,
              ⟨(some 64), .mv (.t 63), none, [], false⟩,
              ⟨(some 65), .mv (.t 8), (some (64, true)), [], false⟩,
              ⟨(some 66), .mv (.t 11), (some (64, true)), [], false⟩,
              ⟨(some 67), .mv (.t 11), (some (64, true)), [], false⟩,
              ⟨(some 68), .bin .mul (.t 66) (.t 67), (some (64, true)), [], false⟩,
              ⟨(some 69), .bin .leq (.t 65) (.t 68), (some (64, true)), [], false⟩,
              ⟨(some 70), .pick (.t 64) (.t 69) (.k (.bool false)), none, [], false⟩,
              ⟨(some 71), .mv (.t 70), none, [], false⟩,
              ⟨(some 72), .mv (.t 9), (some (71, true)), [], false⟩,
              ⟨(some 73), .fad 5 (.t 6), (some (71, true)), [], false⟩,
              ⟨(some 74), .ld1 (.t 73), (some (71, true)), [], false⟩,
              ⟨(some 75), .bin .sub (.t 74) (.k (.int .i64 100)), (some (71, true)), [], false⟩,
              ⟨(some 76), .bin .leq (.t 72) (.t 75), (some (71, true)), [], false⟩,
              ⟨(some 77), .pick (.t 71) (.t 76) (.k (.bool false)), none, [], false⟩])
            (.cond (.t 77) (.seq (.reg [
                ⟨(some 4), .mv (.k (.int .i64 0)), none, [], false⟩,
                ⟨(some 5), .mv (.k (.int .i64 0)), none, [], false⟩])
              (.ret))
             (.skip)))
           (.seq (.reg [
              ⟨(some 4), .mv (.k (.int .i64 1)), none, [], false⟩,
              ⟨(some 5), .mv (.k (.int .i64 0)), none, [], false⟩])
            (.ret)))))))))
/-- skyway/conform.Late -/
def c37 : CF where
  np := 2
  nt := 63
  res := [.t 4, .t 5]
  code := .seq (.reg [
      ⟨(some 2), .box (.t 0), none, [], false⟩,
      ⟨(some 4), .mv (.k (.int .i64 0)), none, [], false⟩,
      ⟨(some 5), .mv (.k (.int .i64 0)), none, [], false⟩])
    (.seq (.seq (.reg [
        ⟨(some 14), .ldn 13 (.t 2), none, [], false⟩,
        ⟨(some 15), .call (.k (.fn 65 [])) [(.t 14)], none, [], false⟩,
        ⟨(some 6), .mv (.t 15), none, [], false⟩])
      (.seq (.reg [
         ⟨(some 16), .mv (.t 6), none, [], false⟩,
         ⟨(some 17), .bin .neq (.t 16) (.k (.int .i64 0)), none, [], false⟩])
       (.cond (.t 17) (.seq (.reg [
           ⟨(some 18), .mv (.t 6), none, [], false⟩,
           ⟨(some 4), .mv (.k (.int .i64 0)), none, [], false⟩,
           ⟨(some 5), .mv (.t 18), none, [], false⟩])
         (.ret))
        (.skip))))
     (.seq (.seq (.reg [
         ⟨(some 19), .mv (.t 1), none, [], false⟩,
         ⟨(some 20), .call (.k (.fn 38 [])) [(.t 19)], none, [], false⟩,
         ⟨(some 7), .mv (.t 20), none, [], false⟩])
       (.seq (.reg [
          ⟨(some 21), .mv (.t 7), none, [], false⟩,
          ⟨(some 22), .bin .neq (.t 21) (.k (.int .i64 0)), none, [], false⟩])
        (.cond (.t 22) (.seq (.reg [
            ⟨(some 23), .mv (.t 7), none, [], false⟩,
            ⟨(some 4), .mv (.k (.int .i64 0)), none, [], false⟩,
            ⟨(some 5), .mv (.t 23), none, [], false⟩])
          (.ret))
         (.skip))))
      (.seq (.seq (.reg [
          ⟨(some 8), .mv (.k (.int .i64 0)), none, [], false⟩])
        (.blk 0 (.loop (.seq (.seq (.reg [
              ⟨(some 24), .mv (.t 8), none, [], false⟩,
              ⟨(some 25), .bin .leq (.t 24) (.k (.int .i64 600)), none, [], false⟩])
            (.cond (.t 25) (.skip)
             (.exit 0)))
           (.seq (.blk 1 (.seq (.reg [
                ⟨(some 28), .mv (.t 8), none, [], false⟩,
                ⟨(some 29), .mv (.t 8), none, [], false⟩,
                ⟨(some 30), .un .neg (.t 29), none, [], false⟩,
                ⟨(some 31), .mk [.int .i64 0, .int .i64 0] [(0, 1, (.t 28)), (1, 1, (.t 30))], none, [], false⟩,
                ⟨(some 32), .mv (.k (.int .i64 0)), none, [], false⟩])
              (.blk 2 (.loop (.seq (.reg [
                   ⟨(some 33), .bin .lss (.t 32) (.k (.int .i64 2)), none, [], false⟩])
                 (.seq (.cond (.t 33) (.skip)
                   (.exit 2))
                  (.seq (.blk 3 (.seq (.reg [
                       ⟨(some 34), .ixa 2 1 false (.t 31) (.t 32), none, [], false⟩,
                       ⟨(some 10), .mv (.t 34), none, [], false⟩])
                     (.seq (.reg [
                        ⟨(some 35), .ldn 13 (.t 2), none, [], false⟩,
                        ⟨(some 11), .new [.int .i64 0, .int .i64 0, .int .i64 0, .int .i64 0, .int .i64 0, .int .i64 0, .int .i64 0, .int .i64 0, .int .i64 0, .int .i64 0, .int .i64 0, .int .i64 0, .int .i64 0], none, [], false⟩,
                        ⟨none, .st 13 (.t 11) (.t 35), none, [], false⟩])
                      (.seq (.reg [
                         ⟨(some 36), .fad 2 (.t 11), none, [], false⟩,
                         ⟨(some 37), .ld1 (.t 36), none, [], false⟩,
                         ⟨(some 38), .mv (.t 10), none, [], false⟩,
                         ⟨(some 39), .bin .sub (.t 37) (.t 38), none, [], false⟩,
                         ⟨(some 40), .fad 2 (.t 11), none, [], false⟩,
                         ⟨none, .st 1 (.t 40) (.t 39), none, [], false⟩])
                       (.seq (.seq (.reg [
                           ⟨(some 41), .fad 2 (.t 11), none, [], false⟩,
                           ⟨(some 42), .ld1 (.t 41), none, [], false⟩,
                           ⟨(some 43), .bin .lss (.t 42) (.k (.int .i64 0)), none, [], false⟩,
                           ⟨(some 44), .mv (.t 43), none, [], false⟩,
                           ⟨(some 45), .fad 2 (.t 11), (some (44, false)), [], false⟩,
                           ⟨(some 46), .ld1 (.t 45), (some (44, false)), [], false⟩,
                           ⟨(some 47), .bin .gtr (.t 46) (.k (.int .i64 200000)), (some (44, false)), [], false⟩,
                           ⟨(some 48), .pick (.t 44) (.k (.bool true)) (.t 47), none, [], false⟩])
                         (.cond (.t 48) (.exit 3)
                          (.skip)))
                        (.seq (.reg [
                           ⟨(some 50), .ldn 13 (.t 11), none, [], false⟩,
                           ⟨(some 51), .mv (.t 1), none, [], false⟩,
                           ⟨(some 52), .call (.k (.fn 40 [])) [(.t 50), (.t 51)], none, [], false⟩,
                           ⟨(some 49), .mv (.t 52), none, [], false⟩,
                           ⟨(some 53), .ext (.t 49) 0, none, [], false⟩,
                           ⟨(some 54), .ext (.t 49) 1, none, [], false⟩,
                           ⟨(some 12), .mv (.t 53), none, [], false⟩,
                           ⟨(some 13), .mv (.t 54), none, [], false⟩])
                         (.seq (.reg [
                            ⟨(some 55), .mv (.t 13), none, [], false⟩,
                            ⟨(some 56), .bin .eql (.t 55) (.k (.int .i64 0)), none, [], false⟩,
                            ⟨(some 57), .mv (.t 56), none, [], false⟩,
                            ⟨(some 58), .mv (.t 12), (some (57, true)), [], false⟩,
                            ⟨(some 59), .bin .neq (.t 58) (.k (.int .i64 2)), (some (57, true)), [], false⟩,
                            ⟨(some 60), .pick (.t 57) (.t 59) (.k (.bool false)), none, [], false⟩])
                          (.cond (.t 60) (.seq (.reg [
                              ⟨(some 61), .mv (.t 10), none, [], false⟩,
                              ⟨(some 4), .mv (.t 61), none, [], false⟩,
                              ⟨(some 5), .mv (.k (.int .i64 0)), none, [], false⟩])
                            (.ret))
                           (.skip)))))))))
                   (.reg [
                     ⟨(some 62), .bin .add (.t 32) (.k (.int .i64 1)), none, [], false⟩,
                     ⟨(some 32), .mv (.t 62), none, [], false⟩]))))))))
            (.reg [
              ⟨(some 26), .mv (.t 8), none, [], false⟩,
              ⟨(some 27), .bin .add (.t 26) (.k (.int .i64 1)), none, [], false⟩,
              ⟨(some 8), .mv (.t 27), none, [], false⟩]))))))
       (.seq (.reg [
          ⟨(some 4), .mv (.k (.int .i64 0)), none, [], false⟩,
          ⟨(some 5), .mv (.k (.int .i64 8)), none, [], false⟩])
        (.ret)))))
/-- skyway/skywaykeep2.ConformLate -/
def c12 : CF where
  np := 3
  nt := 100
  res := [.t 6]
  code := .seq (.reg [
      ⟨(some 6), .mv (.k (.bool false)), none, [], false⟩])
    (.seq (.reg [
       ⟨(some 14), .mk [.int .i64 0, .int .i64 0] [(0, 1, (.k (.int .i64 8000)))], none, [], false⟩,
       ⟨(some 15), .mk [.int .i64 0, .int .i64 0, .int .i64 0, .int .i64 0, .int .i64 0, .int .i64 0, .int .i64 0, .int .i64 0, .int .i64 0, .int .i64 0, .int .i64 0, .int .i64 0, .int .i64 0] [(2, 1, (.k (.int .i64 50))), (3, 2, (.t 14)), (7, 1, (.k (.int .i64 5000)))], none, [], false⟩,
       ⟨(some 7), .new [.int .i64 0, .int .i64 0, .int .i64 0, .int .i64 0, .int .i64 0, .int .i64 0, .int .i64 0, .int .i64 0, .int .i64 0, .int .i64 0, .int .i64 0, .int .i64 0, .int .i64 0], none, [], false⟩,
       ⟨none, .st 13 (.t 7) (.t 15), none, [], false⟩])
     (.seq (.seq (.reg [
         ⟨(some 17), .ldn 13 (.t 7), none, [], false⟩,
         ⟨(some 18), .call (.k (.fn 35 [])) [(.k (.int .i64 10)), (.k (.int .i64 300))], none, [], true⟩,
         ⟨(some 19), .call (.k (.fn 37 [])) [(.t 17), (.t 18)], none, [], false⟩,
         ⟨(some 16), .mv (.t 19), none, [], false⟩,
         ⟨(some 20), .ext (.t 16) 0, none, [], false⟩,
         ⟨(some 21), .ext (.t 16) 1, none, [], false⟩,
         ⟨(some 8), .mv (.t 20), none, [], false⟩,
         ⟨(some 9), .mv (.t 21), none, [], false⟩])
       (.seq (.reg [
          ⟨(some 22), .mv (.t 9), none, [], false⟩,
          ⟨(some 23), .bin .neq (.t 22) (.k (.int .i64 0)), none, [], false⟩,
          ⟨(some 24), .mv (.t 23), none, [], false⟩,
          ⟨(some 25), .mv (.t 8), (some (24, false)), [], false⟩,
          ⟨(some 26), .bin .lss (.t 25) (.k (.int .i64 9)), (some (24, false)), [], false⟩,
          ⟨(some 27), .pick (.t 24) (.k (.bool true)) (.t 26), none, [], false⟩,
          ⟨(some 28), .mv (.t 27), none, [], false⟩,
          ⟨(some 29), .mv (.t 8), (some (28, false)), [], false⟩,
          ⟨(some 30), .bin .gtr (.t 29) (.k (.int .i64 11)), (some (28, false)), [], false⟩,
          ⟨(some 31), .pick (.t 28) (.k (.bool true)) (.t 30), none, [], false⟩])
        (.cond (.t 31) (.seq (.reg [
            ⟨(some 6), .mv (.k (.bool false)), none, [], false⟩])
          (.ret))
         (.skip))))
      (.seq (.seq (.reg [
          ⟨(some 32), .mv (.t 0), none, [], false⟩,
          ⟨(some 33), .call (.k (.fn 38 [])) [(.t 32)], none, [], false⟩,
          ⟨(some 34), .bin .neq (.t 33) (.k (.int .i64 0)), none, [], false⟩])
        (.cond (.t 34) (.seq (.reg [
            ⟨(some 6), .mv (.k (.bool true)), none, [], false⟩])
          (.ret))
         (.skip)))
       (.seq (.reg [
          ⟨(some 35), .mv (.t 1), none, [], false⟩,
          ⟨(some 36), .call (.k (.fn 16 [])) [(.t 35), (.k (.int .i64 (-40))), (.k (.int .i64 40))], none, [], false⟩,
          ⟨(some 1), .mv (.t 36), none, [], false⟩])
        (.seq (.reg [
           ⟨(some 37), .mv (.t 2), none, [], false⟩,
           ⟨(some 38), .mv (.t 0), none, [], false⟩,
           ⟨(some 39), .iad 6 (.t 38) (.k (.int .i64 0)), none, [], false⟩,
           ⟨(some 40), .fad 0 (.t 39), none, [], false⟩,
           ⟨(some 41), .fad 0 (.t 40), none, [], false⟩,
           ⟨(some 42), .ld1 (.t 41), none, [], false⟩,
           ⟨(some 43), .mv (.t 0), none, [], false⟩,
           ⟨(some 44), .mv (.t 0), none, [], false⟩,
           ⟨(some 45), .lenv false (.t 44), none, [], false⟩,
           ⟨(some 46), .bin .sub (.t 45) (.k (.int .i64 1)), none, [], false⟩,
           ⟨(some 47), .iad 6 (.t 43) (.t 46), none, [], false⟩,
           ⟨(some 48), .fad 0 (.t 47), none, [], false⟩,
           ⟨(some 49), .fad 0 (.t 48), none, [], false⟩,
           ⟨(some 50), .ld1 (.t 49), none, [], false⟩,
           ⟨(some 51), .call (.k (.fn 16 [])) [(.t 37), (.t 42), (.t 50)], none, [], false⟩,
           ⟨(some 2), .mv (.t 51), none, [], false⟩])
         (.seq (.reg [
            ⟨(some 53), .mv (.t 0), none, [], false⟩,
            ⟨(some 54), .mv (.t 2), none, [], false⟩,
            ⟨(some 55), .call (.k (.fn 39 [])) [(.t 53), (.t 54)], none, [], false⟩,
            ⟨(some 52), .mv (.t 55), none, [], false⟩,
            ⟨(some 56), .ext (.t 52) 0, none, [], false⟩,
            ⟨(some 57), .ext (.t 52) 1, none, [], false⟩,
            ⟨(some 10), .new [.int .i64 0, .int .i64 0, .int .i64 0, .int .i64 0, .int .i64 0, .int .i64 0], none, [], false⟩,
            ⟨none, .st 6 (.t 10) (.t 56), none, [], false⟩,
            ⟨(some 11), .mv (.t 57), none, [], false⟩])
          (.seq (.seq (.reg [
              ⟨(some 58), .mv (.t 11), none, [], false⟩,
              ⟨(some 59), .bin .neq (.t 58) (.k (.int .i64 0)), none, [], false⟩,
              ⟨(some 60), .mv (.t 59), none, [], false⟩,
              ⟨(some 61), .mv (.t 2), (some (60, false)), [], false⟩,
              ⟨(some 62), .mv (.t 1), (some (60, false)), [], false⟩,
              ⟨(some 63), .bin .add (.t 61) (.t 62), (some (60, false)), [], false⟩,
              ⟨(some 64), .bin .lss (.t 63) (.k (.int .i64 0)), (some (60, false)), [], false⟩,
              ⟨(some 65), .pick (.t 60) (.k (.bool true)) (.t 64), none, [], false⟩,
              ⟨(some 66), .mv (.t 65), none, [], false⟩,
              ⟨(some 67), .mv (.t 2), (some (66, false)), [], false⟩,
              ⟨(some 68), .mv (.t 1), (some (66, false)), [], false⟩,
              ⟨(some 69), .bin .add (.t 67) (.t 68), (some (66, false)), [], false⟩,
              ⟨(some 70), .bin .gtr (.t 69) (.k (.int .i64 200000)), (some (66, false)), [], false⟩,
              ⟨(some 71), .pick (.t 66) (.k (.bool true)) (.t 70), none, [], false⟩])
            (.cond (.t 71) (.seq (.reg [
                ⟨(some 6), .mv (.k (.bool true)), none, [], false⟩])
              (.ret))
             (.skip)))
           (.seq (.reg [
              ⟨(some 73), .mv (.t 2), none, [], false⟩,
              ⟨(some 74), .mv (.t 1), none, [], false⟩,
              ⟨(some 75), .bin .add (.t 73) (.t 74), none, [], false⟩,
              ⟨(some 76), .fad 0 (.t 10), none, [], false⟩,
              ⟨(some 77), .fad 1 (.t 76), none, [], false⟩,
              ⟨(some 78), .ldn 2 (.t 77), none, [], false⟩,
              ⟨(some 79), .fad 0 (.t 10), none, [], false⟩,
              ⟨(some 80), .fad 3 (.t 79), none, [], false⟩,
              ⟨(some 81), .ld1 (.t 80), none, [], false⟩,
              ⟨(some 82), .mk [.int .i64 0, .int .i64 0, .int .i64 0, .int .i64 0, .int .i64 0, .int .i64 0, .int .i64 0, .int .i64 0, .int .i64 0, .int .i64 0, .int .i64 0, .int .i64 0, .int .i64 0] [(2, 1, (.t 75)), (3, 2, (.t 78)), (7, 1, (.t 81))], none, [], false⟩,
              ⟨(some 83), .mv (.t 0), none, [], false⟩,
              ⟨(some 84), .call (.k (.fn 37 [])) [(.t 82), (.t 83)], none, [], false⟩,
              ⟨(some 72), .mv (.t 84), none, [], false⟩,
              ⟨(some 85), .ext (.t 72) 0, none, [], false⟩,
              ⟨(some 86), .ext (.t 72) 1, none, [], false⟩,
              ⟨(some 12), .mv (.t 85), none, [], false⟩,
              ⟨(some 13), .mv (.t 86), none, [], false⟩])
            (.seq (.reg [
               ⟨(some 87), .mv (.t 13), none, [], false⟩,
               ⟨(some 88), .bin .eql (.t 87) (.k (.int .i64 0)), none, [], false⟩,
               ⟨(some 89), .mv (.t 88), none, [], false⟩,
               ⟨(some 90), .mv (.t 12), (some (89, true)), [], false⟩,
               ⟨(some 91), .mv (.t 12), (some (89, true)), [], false⟩,
               ⟨(some 92), .un .neg (.t 91), (some (89, true)), [], false⟩,
               ⟨(some 93), .mnx true (.t 90) [(.t 92)], (some (89, true)), [], false⟩,
               ⟨(some 94), .mv (.t 1), (some (89, true)), [], false⟩,
               ⟨(some 95), .mv (.t 1), (some (89, true)), [], false⟩,
               ⟨(some 96), .un .neg (.t 95), (some (89, true)), [], false⟩,
               ⟨(some 97), .mnx true (.t 94) [(.t 96)], (some (89, true)), [], false⟩,
               ⟨(some 98), .bin .leq (.t 93) (.t 97), (some (89, true)), [], false⟩,
               ⟨(some 99), .pick (.t 89) (.t 98) (.k (.bool false)), none, [], false⟩,
               ⟨(some 6), .mv (.t 99), none, [], false⟩])
             (.ret))))))))))
/-- skyway/skywaykeep2.ConformSound -/
def c13 : CF where
  np := 4
  nt := 95
  res := [.t 8]
  code := .seq (.reg [
      ⟨(some 4), .box (.t 0), none, [], false⟩,
      ⟨(some 6), .box (.t 2), none, [], false⟩,
      ⟨(some 8), .mv (.k (.bool false)), none, [], false⟩])
    (.seq (.reg [
       ⟨(some 18), .mk [.int .i64 0, .int .i64 0] [(0, 1, (.k (.int .i64 10000)))], none, [], false⟩,
       ⟨(some 19), .mk [.int .i64 0, .int .i64 0, .int .i64 0, .int .i64 0, .int .i64 0, .int .i64 0, .int .i64 0, .int .i64 0, .int .i64 0, .int .i64 0, .int .i64 0, .int .i64 0, .int .i64 0] [(2, 1, (.k (.int .i64 50))), (3, 2, (.t 18)), (7, 1, (.k (.int .i64 5000))), (9, 1, (.k (.int .i64 20)))], none, [], false⟩,
       ⟨(some 9), .new [.int .i64 0, .int .i64 0, .int .i64 0, .int .i64 0, .int .i64 0, .int .i64 0, .int .i64 0, .int .i64 0, .int .i64 0, .int .i64 0, .int .i64 0, .int .i64 0, .int .i64 0], none, [], false⟩,
       ⟨none, .st 13 (.t 9) (.t 19), none, [], false⟩])
     (.seq (.seq (.reg [
         ⟨(some 21), .ldn 13 (.t 9), none, [], false⟩,
         ⟨(some 22), .call (.k (.fn 35 [])) [(.k (.int .i64 100)), (.k (.int .i64 300))], none, [], true⟩,
         ⟨(some 23), .call (.k (.fn 40 [])) [(.t 21), (.t 22)], none, [], false⟩,
         ⟨(some 20), .mv (.t 23), none, [], false⟩,
         ⟨(some 24), .ext (.t 20) 0, none, [], false⟩,
         ⟨(some 25), .ext (.t 20) 1, none, [], false⟩,
         ⟨(some 10), .mv (.t 24), none, [], false⟩,
         ⟨(some 11), .mv (.t 25), none, [], false⟩])
       (.seq (.reg [
          ⟨(some 26), .mv (.t 11), none, [], false⟩,
          ⟨(some 27), .bin .neq (.t 26) (.k (.int .i64 0)), none, [], false⟩,
          ⟨(some 28), .mv (.t 27), none, [], false⟩,
          ⟨(some 29), .mv (.t 10), (some (28, false)), [], false⟩,
          ⟨(some 30), .bin .neq (.t 29) (.k (.int .i64 0)), (some (28, false)), [], false⟩,
          ⟨(some 31), .pick (.t 28) (.k (.bool true)) (.t 30), none, [], false⟩])
        (.cond (.t 31) (.seq (.reg [
            ⟨(some 8), .mv (.k (.bool false)), none, [], false⟩])
          (.ret))
         (.skip))))
      (.seq (.seq (.reg [
          ⟨(some 33), .ldn 13 (.t 9), none, [], false⟩,
          ⟨(some 34), .call (.k (.fn 35 [])) [(.k (.int .i64 1)), (.k (.int .i64 300))], none, [], true⟩,
          ⟨(some 35), .call (.k (.fn 40 [])) [(.t 33), (.t 34)], none, [], false⟩,
          ⟨(some 32), .mv (.t 35), none, [], false⟩,
          ⟨(some 36), .ext (.t 32) 0, none, [], false⟩,
          ⟨(some 37), .ext (.t 32) 1, none, [], false⟩,
          ⟨(some 12), .mv (.t 36), none, [], false⟩,
          ⟨(some 13), .mv (.t 37), none, [], false⟩])
        (.seq (.reg [
           ⟨(some 38), .mv (.t 13), none, [], false⟩,
           ⟨(some 39), .bin .neq (.t 38) (.k (.int .i64 0)), none, [], false⟩,
           ⟨(some 40), .mv (.t 39), none, [], false⟩,
           ⟨(some 41), .mv (.t 12), (some (40, false)), [], false⟩,
           ⟨(some 42), .bin .neq (.t 41) (.k (.int .i64 1)), (some (40, false)), [], false⟩,
           ⟨(some 43), .pick (.t 40) (.k (.bool true)) (.t 42), none, [], false⟩])
         (.cond (.t 43) (.seq (.reg [
             ⟨(some 8), .mv (.k (.bool false)), none, [], false⟩])
           (.ret))
          (.skip))))
       (.seq (.reg [
          ⟨(some 45), .ldn 13 (.t 4), none, [], false⟩,
          ⟨(some 46), .mv (.t 1), none, [], false⟩,
          ⟨(some 47), .call (.k (.fn 40 [])) [(.t 45), (.t 46)], none, [], false⟩,
          ⟨(some 44), .mv (.t 47), none, [], false⟩,
          ⟨(some 48), .ext (.t 44) 0, none, [], false⟩,
          ⟨(some 49), .ext (.t 44) 1, none, [], false⟩,
          ⟨(some 14), .mv (.t 48), none, [], false⟩,
          ⟨(some 15), .mv (.t 49), none, [], false⟩])
        (.seq (.seq (.reg [
            ⟨(some 50), .mv (.t 15), none, [], false⟩,
            ⟨(some 51), .bin .neq (.t 50) (.k (.int .i64 0)), none, [], false⟩,
            ⟨(some 52), .mv (.t 51), none, [], false⟩,
            ⟨(some 53), .ldn 2 (.t 6), (some (52, false)), [], false⟩,
            ⟨(some 54), .fad 3 (.t 4), (some (52, false)), [], false⟩,
            ⟨(some 55), .ldn 2 (.t 54), (some (52, false)), [], false⟩,
            ⟨(some 57), .fad 9 (.t 4), (some (52, false)), [], false⟩,
            ⟨(some 58), .ld1 (.t 57), (some (52, false)), [], false⟩,
            ⟨(some 59), .fad 9 (.t 4), (some (52, false)), [], false⟩,
            ⟨(some 60), .ld1 (.t 59), (some (52, false)), [], false⟩,
            ⟨(some 61), .bin .mul (.t 58) (.t 60), (some (52, false)), [], false⟩,
            ⟨(some 56), .call (.k (.fn 33 [])) [(.t 53), (.t 55)], (some (52, false)), [], true⟩,
            ⟨(some 62), .bin .gtr (.t 56) (.t 61), (some (52, false)), [], false⟩,
            ⟨(some 63), .pick (.t 52) (.k (.bool true)) (.t 62), none, [], false⟩])
          (.cond (.t 63) (.seq (.reg [
              ⟨(some 64), .mv (.t 15), none, [], false⟩,
              ⟨(some 65), .bin .eql (.t 64) (.k (.int .i64 0)), none, [], false⟩,
              ⟨(some 66), .mv (.t 65), none, [], false⟩,
              ⟨(some 67), .mv (.t 14), (some (66, false)), [], false⟩,
              ⟨(some 68), .bin .eql (.t 67) (.k (.int .i64 0)), (some (66, false)), [], false⟩,
              ⟨(some 69), .pick (.t 66) (.k (.bool true)) (.t 68), none, [], false⟩,
              ⟨(some 8), .mv (.t 69), none, [], false⟩])
            (.ret))
           (.skip)))
         (.seq (.reg [
            ⟨(some 71), .mv (.t 1), none, [], false⟩,
            ⟨(some 72), .fad 2 (.t 4), none, [], false⟩,
            ⟨(some 73), .ld1 (.t 72), none, [], false⟩,
            ⟨(some 74), .ldn 2 (.t 6), none, [], false⟩,
            ⟨(some 75), .fad 7 (.t 4), none, [], false⟩,
            ⟨(some 76), .ld1 (.t 75), none, [], false⟩,
            ⟨(some 77), .mv (.t 3), none, [], false⟩,
            ⟨(some 78), .call (.k (.fn 16 [])) [(.t 77), (.k (.int .i64 (-100))), (.k (.int .i64 100))], none, [], true⟩,
            ⟨(some 79), .bin .add (.t 76) (.t 78), none, [], false⟩,
            ⟨(some 80), .call (.k (.fn 36 [])) [(.t 71), (.t 73), (.t 74), (.t 79)], none, [], false⟩,
            ⟨(some 70), .mv (.t 80), none, [], false⟩,
            ⟨(some 81), .ext (.t 70) 0, none, [], false⟩,
            ⟨(some 82), .ext (.t 70) 1, none, [], false⟩,
            ⟨(some 16), .mv (.t 81), none, [], false⟩,
            ⟨(some 17), .mv (.t 82), none, [], false⟩])
          (.seq (.reg [
             ⟨(some 83), .mv (.t 17), none, [], false⟩,
             ⟨(some 84), .bin .neq (.t 83) (.k (.int .i64 0)), none, [], false⟩,
             ⟨(some 85), .mv (.t 84), none, [], false⟩,
             ⟨(some 86), .mv (.t 14), (some (85, false)), [], false⟩,
             ⟨(some 87), .bin .eql (.t 86) (.k (.int .i64 1)), (some (85, false)), [], false⟩,
             ⟨(some 88), .pick (.t 85) (.k (.bool true)) (.t 87), none, [], false⟩,
             ⟨(some 89), .mv (.t 88), none, [], false⟩,
             ⟨(some 90), .mv (.t 16), (some (89, false)), [], false⟩,
             ⟨(some 91), .mv (.t 14), (some (89, false)), [], false⟩,
             ⟨(some 92), .bin .eql (.t 91) (.k (.int .i64 0)), (some (89, false)), [], false⟩,
             ⟨(some 93), .eqs false none (.t 90) (.t 92), (some (89, false)), [], false⟩,
             ⟨(some 94), .pick (.t 89) (.k (.bool true)) (.t 93), none, [], false⟩,
             ⟨(some 8), .mv (.t 94), none, [], false⟩])
           (.ret))))))))
/-- skyway/conform.First -/
def c41 : CF where
  np := 2
  nt := 69
  res := [.t 4, .t 5]
  code := .seq (.reg [
      ⟨(some 4), .mv (.k (.int .i64 0)), none, [], false⟩,
      ⟨(some 5), .mv (.k (.int .i64 0)), none, [], false⟩])
    (.seq (.seq (.reg [
        ⟨(some 14), .mv (.t 0), none, [], false⟩,
        ⟨(some 15), .lenv false (.t 14), none, [], false⟩,
        ⟨(some 16), .bin .gtr (.t 15) (.k (.int .i64 256)), none, [], false⟩])
      (.cond (.t 16) (.seq (.reg [
          ⟨(some 4), .mv (.k (.int .i64 0)), none, [], false⟩,
          ⟨(some 5), .mv (.k (.int .i64 2)), none, [], false⟩])
        (.ret))
       (.skip)))
     (.seq (.seq (.reg [
         ⟨(some 17), .mv (.t 1), none, [], false⟩,
         ⟨(some 18), .call (.k (.fn 38 [])) [(.t 17)], none, [], false⟩,
         ⟨(some 6), .mv (.t 18), none, [], false⟩])
       (.seq (.reg [
          ⟨(some 19), .mv (.t 6), none, [], false⟩,
          ⟨(some 20), .bin .neq (.t 19) (.k (.int .i64 0)), none, [], false⟩])
        (.cond (.t 20) (.seq (.reg [
            ⟨(some 21), .mv (.t 6), none, [], false⟩,
            ⟨(some 4), .mv (.k (.int .i64 0)), none, [], false⟩,
            ⟨(some 5), .mv (.t 21), none, [], false⟩])
          (.ret))
         (.skip))))
      (.seq (.seq (.reg [
          ⟨(some 22), .mv (.t 0), none, [], false⟩,
          ⟨(some 23), .lenv false (.t 22), none, [], false⟩,
          ⟨(some 24), .mv (.k (.int .i64 0)), none, [], false⟩])
        (.blk 0 (.loop (.seq (.reg [
             ⟨(some 25), .bin .lss (.t 24) (.t 23), none, [], false⟩])
           (.seq (.cond (.t 25) (.skip)
             (.exit 0))
            (.seq (.blk 1 (.seq (.reg [
                 ⟨(some 26), .mv (.t 24), none, [], false⟩,
                 ⟨(some 27), .iad 13 (.t 22) (.t 24), none, [], false⟩,
                 ⟨(some 28), .ldn 13 (.t 27), none, [], false⟩,
                 ⟨(some 8), .new [.int .i64 0, .int .i64 0, .int .i64 0, .int .i64 0, .int .i64 0, .int .i64 0, .int .i64 0, .int .i64 0, .int .i64 0, .int .i64 0, .int .i64 0, .int .i64 0, .int .i64 0], none, [], false⟩,
                 ⟨(some 7), .mv (.t 26), none, [], false⟩,
                 ⟨none, .st 13 (.t 8) (.t 28), none, [], false⟩])
               (.seq (.seq (.reg [
                   ⟨(some 29), .ldn 13 (.t 8), none, [], false⟩,
                   ⟨(some 30), .call (.k (.fn 65 [])) [(.t 29)], none, [], false⟩,
                   ⟨(some 9), .mv (.t 30), none, [], false⟩])
                 (.seq (.reg [
                    ⟨(some 31), .mv (.t 9), none, [], false⟩,
                    ⟨(some 32), .bin .neq (.t 31) (.k (.int .i64 0)), none, [], false⟩])
                  (.cond (.t 32) (.seq (.reg [
                      ⟨(some 33), .mv (.t 9), none, [], false⟩,
                      ⟨(some 4), .mv (.k (.int .i64 0)), none, [], false⟩,
                      ⟨(some 5), .mv (.t 33), none, [], false⟩])
                    (.ret))
                   (.skip))))
                (.seq (.reg [
                   ⟨(some 34), .mv (.t 7), none, [], false⟩,
                   ⟨(some 35), .bin .gtr (.t 34) (.k (.int .i64 0)), none, [], false⟩,
                   ⟨(some 36), .mv (.t 35), none, [], false⟩,
                   ⟨(some 37), .fad 2 (.t 8), (some (36, true)), [], false⟩,
                   ⟨(some 38), .ld1 (.t 37), (some (36, true)), [], false⟩,
                   ⟨(some 39), .mv (.t 0), (some (36, true)), [], false⟩,
                   ⟨(some 40), .mv (.t 7), (some (36, true)), [], false⟩,
                   ⟨(some 41), .bin .sub (.t 40) (.k (.int .i64 1)), (some (36, true)), [], false⟩,
                   ⟨(some 42), .iad 13 (.t 39) (.t 41), (some (36, true)), [], false⟩,
                   ⟨(some 43), .fad 2 (.t 42), (some (36, true)), [], false⟩,
                   ⟨(some 44), .ld1 (.t 43), (some (36, true)), [], false⟩,
                   ⟨(some 45), .bin .leq (.t 38) (.t 44), (some (36, true)), [], false⟩,
                   ⟨(some 46), .pick (.t 36) (.t 45) (.k (.bool false)), none, [], false⟩])
                 (.cond (.t 46) (.seq (.reg [
                     ⟨(some 4), .mv (.k (.int .i64 0)), none, [], false⟩,
                     ⟨(some 5), .mv (.k (.int .i64 12)), none, [], false⟩])
                   (.ret))
                  (.skip))))))
             (.reg [
               ⟨(some 47), .bin .add (.t 24) (.k (.int .i64 1)), none, [], false⟩,
               ⟨(some 24), .mv (.t 47), none, [], false⟩])))))))
       (.seq (.seq (.reg [
           ⟨(some 48), .mv (.t 0), none, [], false⟩,
           ⟨(some 49), .lenv false (.t 48), none, [], false⟩,
           ⟨(some 50), .mv (.k (.int .i64 0)), none, [], false⟩])
         (.blk 2 (.loop (.seq (.reg [
              ⟨(some 51), .bin .lss (.t 50) (.t 49), none, [], false⟩])
            (.seq (.cond (.t 51) (.skip)
              (.exit 2))
             (.seq (.blk 3 (.seq (.reg [
                  ⟨(some 52), .mv (.t 50), none, [], false⟩,
                  ⟨(some 53), .iad 13 (.t 48) (.t 50), none, [], false⟩,
                  ⟨(some 54), .ldn 13 (.t 53), none, [], false⟩,
                  ⟨(some 11), .new [.int .i64 0, .int .i64 0, .int .i64 0, .int .i64 0, .int .i64 0, .int .i64 0, .int .i64 0, .int .i64 0, .int .i64 0, .int .i64 0, .int .i64 0, .int .i64 0, .int .i64 0], none, [], false⟩,
                  ⟨(some 10), .mv (.t 52), none, [], false⟩,
                  ⟨none, .st 13 (.t 11) (.t 54), none, [], false⟩])
                (.seq (.reg [
                   ⟨(some 56), .ldn 13 (.t 11), none, [], false⟩,
                   ⟨(some 57), .mv (.t 1), none, [], false⟩,
                   ⟨(some 58), .call (.k (.fn 40 [])) [(.t 56), (.t 57)], none, [], false⟩,
                   ⟨(some 55), .mv (.t 58), none, [], false⟩,
                   ⟨(some 59), .ext (.t 55) 0, none, [], false⟩,
                   ⟨(some 60), .ext (.t 55) 1, none, [], false⟩,
                   ⟨(some 12), .mv (.t 59), none, [], false⟩,
                   ⟨(some 13), .mv (.t 60), none, [], false⟩])
                 (.seq (.reg [
                    ⟨(some 61), .mv (.t 13), none, [], false⟩,
                    ⟨(some 62), .bin .eql (.t 61) (.k (.int .i64 0)), none, [], false⟩,
                    ⟨(some 63), .mv (.t 62), none, [], false⟩,
                    ⟨(some 64), .mv (.t 12), (some (63, true)), [], false⟩,
                    ⟨(some 65), .bin .eql (.t 64) (.k (.int .i64 2)), (some (63, true)), [], false⟩,
                    ⟨(some 66), .pick (.t 63) (.t 65) (.k (.bool false)), none, [], false⟩])
                  (.cond (.t 66) (.seq (.reg [
                      ⟨(some 67), .mv (.t 10), none, [], false⟩,
                      ⟨(some 4), .mv (.t 67), none, [], false⟩,
                      ⟨(some 5), .mv (.k (.int .i64 0)), none, [], false⟩])
                    (.ret))
                   (.skip))))))
              (.reg [
                ⟨(some 68), .bin .add (.t 50) (.k (.int .i64 1)), none, [], false⟩,
                ⟨(some 50), .mv (.t 68), none, [], false⟩])))))))
        (.seq (.reg [
           ⟨(some 4), .mv (.k (.int .i64 0)), none, [], false⟩,
           ⟨(some 5), .mv (.k (.int .i64 8)), none, [], false⟩])
         (.ret))))))
/-- skyway/skywaykeep2.ConformFirst$1 -/
def c43 : CF where
  np := 2
  nt := 18
  res := [.t 3]
  code := .seq (.reg [
      ⟨(some 2), .box (.t 0), none, [], false⟩,
      ⟨(some 3), .mv (.k (.bool false)), none, [], false⟩])
    (.seq (.reg [
       ⟨(some 7), .ldn 13 (.t 2), none, [], false⟩,
       ⟨(some 8), .ld1 (.t 1), none, [], false⟩,
       ⟨(some 9), .call (.k (.fn 40 [])) [(.t 7), (.t 8)], none, [], false⟩,
       ⟨(some 6), .mv (.t 9), none, [], false⟩,
       ⟨(some 10), .ext (.t 6) 0, none, [], false⟩,
       ⟨(some 11), .ext (.t 6) 1, none, [], false⟩,
       ⟨(some 4), .mv (.t 10), none, [], false⟩,
       ⟨(some 5), .mv (.t 11), none, [], false⟩])
     (.seq (.reg [
        ⟨(some 12), .mv (.t 5), none, [], false⟩,
        ⟨(some 13), .bin .eql (.t 12) (.k (.int .i64 0)), none, [], false⟩,
        ⟨(some 14), .mv (.t 13), none, [], false⟩,
        ⟨(some 15), .mv (.t 4), (some (14, true)), [], false⟩,
        ⟨(some 16), .bin .eql (.t 15) (.k (.int .i64 2)), (some (14, true)), [], false⟩,
        ⟨(some 17), .pick (.t 14) (.t 16) (.k (.bool false)), none, [], false⟩,
        ⟨(some 3), .mv (.t 17), none, [], false⟩])
      (.ret)))
/-- slices.IndexFunc[[]skyway/api.Track,skyway/api.Track] -/
def c69 : CF where
  np := 2
  nt := 19
  res := [.t 4]
  code := .seq (.reg [
      ⟨(some 4), .mv (.k (.int .i64 0)), none, [], false⟩])
    (.seq (.seq (.reg [
        ⟨(some 6), .mv (.t 0), none, [], false⟩,
        ⟨(some 7), .lenv false (.t 6), none, [], false⟩,
        ⟨(some 8), .mv (.k (.int .i64 0)), none, [], false⟩])
      (.blk 0 (.loop (.seq (.reg [
           ⟨(some 9), .bin .lss (.t 8) (.t 7), none, [], false⟩])
         (.seq (.cond (.t 9) (.skip)
           (.exit 0))
          (.seq (.blk 1 (.seq (.reg [
               ⟨(some 10), .mv (.t 8), none, [], false⟩,
               ⟨(some 5), .mv (.t 10), none, [], false⟩])
             (.seq (.reg [
                ⟨(some 11), .mv (.t 1), none, [], false⟩,
                ⟨(some 12), .mv (.t 0), none, [], false⟩,
                ⟨(some 13), .mv (.t 5), none, [], false⟩,
                ⟨(some 14), .iad 13 (.t 12) (.t 13), none, [], false⟩,
                ⟨(some 15), .ldn 13 (.t 14), none, [], false⟩,
                ⟨(some 16), .call (.t 11) [(.t 15)], none, [], false⟩])
              (.cond (.t 16) (.seq (.reg [
                  ⟨(some 17), .mv (.t 5), none, [], false⟩,
                  ⟨(some 4), .mv (.t 17), none, [], false⟩])
                (.ret))
               (.skip)))))
           (.reg [
             ⟨(some 18), .bin .add (.t 8) (.k (.int .i64 1)), none, [], false⟩,
             ⟨(some 8), .mv (.t 18), none, [], false⟩])))))))
     (.seq (.reg [
        ⟨(some 4), .mv (.k (.int .i64 (-1))), none, [], false⟩])
      (.ret)))
/-- slices.ContainsFunc[[]skyway/api.Track,skyway/api.Track] -/
def c42 : CF where
  np := 2
  nt := 9
  res := [.t 4]
  code := .seq (.reg [
      ⟨(some 4), .mv (.k (.bool false)), none, [], false⟩])
    (.seq (.reg [
       ⟨(some 5), .mv (.t 0), none, [], false⟩,
       ⟨(some 6), .mv (.t 1), none, [], false⟩,
       ⟨(some 7), .call (.k (.fn 69 [])) [(.t 5), (.t 6)], none, [], false⟩,
       ⟨(some 8), .bin .geq (.t 7) (.k (.int .i64 0)), none, [], false⟩,
       ⟨(some 4), .mv (.t 8), none, [], false⟩])
     (.ret))
/-- skyway/skywaykeep2.ConformFirst -/
def c14 : CF where
  np := 2
  nt := 70
  res := [.t 4]
  code := .seq (.reg [
      ⟨(some 3), .box (.t 1), none, [], false⟩,
      ⟨(some 4), .mv (.k (.bool false)), none, [], false⟩])
    (.seq (.reg [
       ⟨(some 13), .mk [.int .i64 0, .int .i64 0] [(1, 1, (.k (.int .i64 90000)))], none, [], false⟩,
       ⟨(some 14), .mk [.int .i64 0, .int .i64 0, .int .i64 0, .int .i64 0, .int .i64 0, .int .i64 0, .int .i64 0, .int .i64 0, .int .i64 0, .int .i64 0, .int .i64 0, .int .i64 0, .int .i64 0] [(2, 1, (.k (.int .i64 60))), (3, 2, (.t 13)), (7, 1, (.k (.int .i64 5000)))], none, [], false⟩,
       ⟨(some 5), .new [.int .i64 0, .int .i64 0, .int .i64 0, .int .i64 0, .int .i64 0, .int .i64 0, .int .i64 0, .int .i64 0, .int .i64 0, .int .i64 0, .int .i64 0, .int .i64 0, .int .i64 0], none, [], false⟩,
       ⟨none, .st 13 (.t 5) (.t 14), none, [], false⟩])
     (.seq (.seq (.reg [
         ⟨(some 16), .mk [.int .i64 0, .int .i64 0] [(0, 1, (.k (.int .i64 10000)))], none, [], false⟩,
         ⟨(some 17), .mk [.int .i64 0, .int .i64 0, .int .i64 0, .int .i64 0, .int .i64 0, .int .i64 0, .int .i64 0, .int .i64 0, .int .i64 0, .int .i64 0, .int .i64 0, .int .i64 0, .int .i64 0] [(2, 1, (.k (.int .i64 50))), (3, 2, (.t 16)), (7, 1, (.k (.int .i64 5000)))], none, [], false⟩,
         ⟨(some 18), .ldn 13 (.t 5), none, [], false⟩,
         ⟨(some 19), .mks [.int .i64 0, .int .i64 0, .int .i64 0, .int .i64 0, .int .i64 0, .int .i64 0, .int .i64 0, .int .i64 0, .int .i64 0, .int .i64 0, .int .i64 0, .int .i64 0, .int .i64 0, .int .i64 0, .int .i64 0, .int .i64 0, .int .i64 0, .int .i64 0, .int .i64 0, .int .i64 0, .int .i64 0, .int .i64 0, .int .i64 0, .int .i64 0, .int .i64 0, .int .i64 0] 13 2 [(0, 13, (.t 17)), (13, 13, (.t 18))], none, [], false⟩,
         ⟨(some 20), .call (.k (.fn 35 [])) [(.k (.int .i64 100)), (.k (.int .i64 300))], none, [], true⟩,
         ⟨(some 21), .call (.k (.fn 41 [])) [(.t 19), (.t 20)], none, [], false⟩,
         ⟨(some 15), .mv (.t 21), none, [], false⟩,
         ⟨(some 22), .ext (.t 15) 0, none, [], false⟩,
         ⟨(some 23), .ext (.t 15) 1, none, [], false⟩,
         ⟨(some 6), .mv (.t 22), none, [], false⟩,
         ⟨(some 7), .mv (.t 23), none, [], false⟩])
       (.seq (.reg [
          ⟨(some 24), .mv (.t 7), none, [], false⟩,
          ⟨(some 25), .bin .neq (.t 24) (.k (.int .i64 0)), none, [], false⟩,
          ⟨(some 26), .mv (.t 25), none, [], false⟩,
          ⟨(some 27), .mv (.t 6), (some (26, false)), [], false⟩,
          ⟨(some 28), .bin .neq (.t 27) (.k (.int .i64 1)), (some (26, false)), [], false⟩,
          ⟨(some 29), .pick (.t 26) (.k (.bool true)) (.t 28), none, [], false⟩])
        (.cond (.t 29) (.seq (.reg [
            ⟨(some 4), .mv (.k (.bool false)), none, [], false⟩])
          (.ret))
         (.skip))))
      (.seq (.reg [
         ⟨(some 31), .mv (.t 0), none, [], false⟩,
         ⟨(some 32), .ld1 (.t 3), none, [], false⟩,
         ⟨(some 33), .call (.k (.fn 41 [])) [(.t 31), (.t 32)], none, [], false⟩,
         ⟨(some 30), .mv (.t 33), none, [], false⟩,
         ⟨(some 34), .ext (.t 30) 0, none, [], false⟩,
         ⟨(some 35), .ext (.t 30) 1, none, [], false⟩,
         ⟨(some 8), .mv (.t 34), none, [], false⟩,
         ⟨(some 9), .mv (.t 35), none, [], false⟩])
       (.seq (.seq (.reg [
           ⟨(some 36), .mv (.t 9), none, [], false⟩,
           ⟨(some 37), .bin .neq (.t 36) (.k (.int .i64 0)), none, [], false⟩,
           ⟨(some 38), .mv (.t 37), none, [], false⟩,
           ⟨(some 39), .mv (.t 9), (some (38, true)), [], false⟩,
           ⟨(some 40), .bin .neq (.t 39) (.k (.int .i64 8)), (some (38, true)), [], false⟩,
           ⟨(some 41), .pick (.t 38) (.t 40) (.k (.bool false)), none, [], false⟩])
         (.cond (.t 41) (.seq (.reg [
             ⟨(some 42), .mv (.t 8), none, [], false⟩,
             ⟨(some 43), .bin .eql (.t 42) (.k (.int .i64 0)), none, [], false⟩,
             ⟨(some 4), .mv (.t 43), none, [], false⟩])
           (.ret))
          (.skip)))
        (.seq (.reg [
           ⟨(some 44), .mv (.t 0), none, [], false⟩,
           ⟨(some 45), .lenv false (.t 44), none, [], false⟩,
           ⟨(some 10), .mv (.t 45), none, [], false⟩])
         (.seq (.seq (.reg [
             ⟨(some 46), .mv (.t 9), none, [], false⟩,
             ⟨(some 47), .bin .eql (.t 46) (.k (.int .i64 0)), none, [], false⟩])
           (.cond (.t 47) (.seq (.reg [
               ⟨(some 48), .mv (.t 8), none, [], false⟩,
               ⟨(some 10), .mv (.t 48), none, [], false⟩])
             (.seq (.reg [
                ⟨(some 50), .mv (.t 0), none, [], false⟩,
                ⟨(some 51), .mv (.t 8), none, [], false⟩,
                ⟨(some 52), .iad 13 (.t 50) (.t 51), none, [], false⟩,
                ⟨(some 53), .ldn 13 (.t 52), none, [], false⟩,
                ⟨(some 54), .ld1 (.t 3), none, [], false⟩,
                ⟨(some 55), .call (.k (.fn 40 [])) [(.t 53), (.t 54)], none, [], false⟩,
                ⟨(some 49), .mv (.t 55), none, [], false⟩,
                ⟨(some 56), .ext (.t 49) 0, none, [], false⟩,
                ⟨(some 57), .ext (.t 49) 1, none, [], false⟩,
                ⟨(some 11), .mv (.t 56), none, [], false⟩,
                ⟨(some 12), .mv (.t 57), none, [], false⟩])
              (.seq (.reg [
                 ⟨(some 58), .mv (.t 12), none, [], false⟩,
                 ⟨(some 59), .bin .neq (.t 58) (.k (.int .i64 0)), none, [], false⟩,
                 ⟨(some 60), .mv (.t 59), none, [], false⟩,
                 ⟨(some 61), .mv (.t 11), (some (60, false)), [], false⟩,
                 ⟨(some 62), .bin .neq (.t 61) (.k (.int .i64 2)), (some (60, false)), [], false⟩,
                 ⟨(some 63), .pick (.t 60) (.k (.bool true)) (.t 62), none, [], false⟩])
               (.cond (.t 63) (.seq (.reg [
                   ⟨(some 4), .mv (.k (.bool false)), none, [], false⟩])
                 (.ret))
                (.skip)))))
            (.skip)))
          (.seq (.reg [
             ⟨(some 64), .mv (.t 0), none, [], false⟩,
             ⟨(some 65), .mv (.t 10), none, [], false⟩,
             ⟨(some 66), .slc 13 (.t 64) none (some (.t 65)), none, [], false⟩,
             ⟨(some 67), .mkf 43 [(.t 3)], none, [], false⟩,
             ⟨(some 68), .call (.k (.fn 42 [])) [(.t 66), (.t 67)], none, [], false⟩,
             ⟨(some 69), .un .not (.t 68), none, [], false⟩,
             ⟨(some 4), .mv (.t 69), none, [], false⟩])
           (.ret))))))))
theorem ok29 : cFunc Try.prog Try.f29 = some c29 := by kernel_rfl
theorem ok8 : cFunc Try.prog Try.f8 = some c8 := by kernel_rfl
theorem ok30 : cFunc Try.prog Try.f30 = some c30 := by kernel_rfl
theorem ok60 : cFunc Try.prog Try.f60 = some c60 := by kernel_rfl
theorem ok31 : cFunc Try.prog Try.f31 = some c31 := by kernel_rfl
theorem ok32 : cFunc Try.prog Try.f32 = some c32 := by kernel_rfl
theorem ok33 : cFunc Try.prog Try.f33 = some c33 := by kernel_rfl
theorem ok9 : cFunc Try.prog Try.f9 = some c9 := by kernel_rfl
theorem ok10 : cFunc Try.prog Try.f10 = some c10 := by kernel_rfl
theorem ok35 : cFunc Try.prog Try.f35 = some c35 := by kernel_rfl
theorem ok61 : cFunc Try.prog Try.f61 = some c61 := by kernel_rfl
theorem ok63 : cFunc Try.prog Try.f63 = some c63 := by kernel_rfl
theorem ok38 : cFunc Try.prog Try.f38 = some c38 := by kernel_rfl
theorem ok77 : cFunc Try.prog Try.f77 = some c77 := by kernel_rfl
theorem ok78 : cFunc Try.prog Try.f78 = some c78 := by kernel_rfl
theorem ok79 : cFunc Try.prog Try.f79 = some c79 := by kernel_rfl
theorem ok66 : cFunc Try.prog Try.f66 = some c66 := by kernel_rfl
theorem ok39 : cFunc Try.prog Try.f39 = some c39 := by kernel_rfl
theorem ok62 : cFunc Try.prog Try.f62 = some c62 := by kernel_rfl
theorem ok34 : cFunc Try.prog Try.f34 = some c34 := by kernel_rfl
theorem ok82 : cFunc Try.prog Try.f82 = some c82 := by kernel_rfl
theorem ok83 : cFunc Try.prog Try.f83 = some c83 := by kernel_rfl
theorem ok76 : cFunc Try.prog Try.f76 = some c76 := by kernel_rfl
theorem ok64 : cFunc Try.prog Try.f64 = some c64 := by kernel_rfl
theorem ok36 : cFunc Try.prog Try.f36 = some c36 := by kernel_rfl
theorem ok11 : cFunc Try.prog Try.f11 = some c11 := by kernel_rfl
theorem ok65 : cFunc Try.prog Try.f65 = some c65 := by kernel_rfl
theorem ok67 : cFunc Try.prog Try.f67 = some c67 := by kernel_rfl
theorem ok68 : cFunc Try.prog Try.f68 = some c68 := by kernel_rfl
theorem ok40 : cFunc Try.prog Try.f40 = some c40 := by kernel_rfl
theorem ok37 : cFunc Try.prog Try.f37 = some c37 := by kernel_rfl
theorem ok12 : cFunc Try.prog Try.f12 = some c12 := by kernel_rfl
theorem ok13 : cFunc Try.prog Try.f13 = some c13 := by kernel_rfl
theorem ok41 : cFunc Try.prog Try.f41 = some c41 := by kernel_rfl
theorem ok43 : cFunc Try.prog Try.f43 = some c43 := by kernel_rfl
theorem ok69 : cFunc Try.prog Try.f69 = some c69 := by kernel_rfl
theorem ok42 : cFunc Try.prog Try.f42 = some c42 := by kernel_rfl
theorem ok14 : cFunc Try.prog Try.f14 = some c14 := by kernel_rfl
end Go.Proofs.Ytehgapcmngdcnaa.CodeAll
