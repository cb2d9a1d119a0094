/- Resolved code, printed by a program. -/
import Derived.Test.YtmbchdfgckmpoaaGreatDoorPE21
import Derived.Test.YtmbchdfgckmpoaaGreatDoorProg
namespace Go.Proofs.YtmbchdfgckmpoaaGreatDoor
open Go.PE

/-- hemiola/perform.Velocity -/
noncomputable def af12 : AF := ⟨29, .seq (.ops [⟨(some 2), none, .box (.t 0)⟩,
    ⟨(some 3), none, .box (.t 1)⟩,
    ⟨(some 4), none, .move (.c (.sc (.int .i64 (0))))⟩,
    ⟨(some 5), none, .move (.c (.sc (.int .i64 (0))))⟩])
  (.seq (.seq (.ops [⟨(some 9), none, .load (some 6) (.t 2)⟩,
    ⟨(some 10), none, .call (.c (.fn (.func 23) [] [])) [(.t 9)]⟩,
    ⟨(some 11), none, .un .not (.t 10)⟩])
  (.cond (.t 11)
   (.seq (.ops [⟨(some 4), none, .move (.c (.sc (.int .i64 (0))))⟩,
     ⟨(some 5), none, .move (.c (.sc (.int .i64 (24))))⟩])
   (.ret))
   (.skip)))
  (.seq (.ops [⟨(some 12), none, .load (some 6) (.t 2)⟩,
    ⟨(some 13), none, .call (.c (.fn (.func 27) [] [])) [(.t 12)]⟩,
    ⟨(some 6), none, .move (.t 13)⟩])
  (.seq (.ops [⟨(some 15), none, .move (.t 6)⟩,
    ⟨(some 16), none, .load (some 2) (.t 3)⟩,
    ⟨(some 17), none, .lookup [.i, .i] true (.agg [(.sc (.int .i64 (0))), (.sc (.int .i64 (0))), (.sc (.int .i64 (0))), (.sc (.int .i64 (0))), (.sc (.int .i64 (0))), (.sl true .full 0 []), (.sl true .full 0 []), (.sc (.int .i64 (0))), (.sc (.int .i64 (0))), (.sc (.int .i64 (0))), (.sl true .full 0 []), (.sc (.int .i64 (0))), (.sc (.int .i64 (0))), (.sc (.int .i64 (0))), (.sc (.int .i64 (0))), (.sc (.int .i64 (0))), (.sc (.int .i64 (0))), (.sc (.int .i64 (0)))]) (.t 15) (.t 16) true⟩,
    ⟨(some 14), none, .move (.t 17)⟩,
    ⟨(some 18), none, .extract 0 (.t 14)⟩,
    ⟨(some 19), none, .extract 1 (.t 14)⟩,
    ⟨(some 7), none, .alloc [(.sc (.int .i64 (0))), (.sc (.int .i64 (0))), (.sc (.int .i64 (0))), (.sc (.int .i64 (0))), (.sc (.int .i64 (0))), (.sl true .full 0 []), (.sl true .full 0 []), (.sc (.int .i64 (0))), (.sc (.int .i64 (0))), (.sc (.int .i64 (0))), (.sl true .full 0 []), (.sc (.int .i64 (0))), (.sc (.int .i64 (0))), (.sc (.int .i64 (0))), (.sc (.int .i64 (0))), (.sc (.int .i64 (0))), (.sc (.int .i64 (0))), (.sc (.int .i64 (0)))]⟩,
    ⟨none, none, .store 18 (.t 7) (.t 18)⟩,
    ⟨(some 8), none, .move (.t 19)⟩])
  (.seq (.seq (.ops [⟨(some 20), none, .move (.t 8)⟩,
    ⟨(some 21), none, .un .not (.t 20)⟩])
  (.cond (.t 21)
   (.seq (.ops [⟨(some 4), none, .move (.c (.sc (.int .i64 (0))))⟩,
     ⟨(some 5), none, .move (.c (.sc (.int .i64 (8))))⟩])
   (.ret))
   (.skip)))
  (.seq (.draw [⟨false, [7], [5], ⟨(some 22), none, .load (some 18) (.t 7)⟩⟩,
    ⟨false, [2], [], ⟨(some 23), none, .load (some 6) (.t 2)⟩⟩,
    ⟨false, [6], [], ⟨(some 24), none, .move (.t 6)⟩⟩,
    ⟨false, [7], [], ⟨(some 25), none, .faddr 13 (.t 7)⟩⟩,
    ⟨false, [25], [], ⟨(some 26), none, .load none (.t 25)⟩⟩,
    ⟨true, [23, 24, 26], [], ⟨(some 27), none, .call (.c (.fn (.func 33) [] [])) [(.t 23), (.t 24), (.t 26)]⟩⟩]
    [⟨(some 28), none, .call (.c (.fn (.func 32) [] [])) [(.t 22), (.t 27)]⟩,
    ⟨(some 4), none, .move (.t 28)⟩,
    ⟨(some 5), none, .move (.c (.sc (.int .i64 (0))))⟩])
  (.ret)))))),
  [.t 4, .t 5]⟩
theorem ok12 : EntryOk Tryz.prog 12 af12 := ⟨Tryz.f12, _, Tryz.func12, by decide, rfl, by kernel_rfl, by kernel_rfl, rfl⟩
/-- hemiola/tempo.New -/
noncomputable def af26 : AF := ⟨148, .seq (.ops [⟨(some 2), none, .box (.t 0)⟩,
    ⟨(some 4), none, .move (.c (.sc (.pointer none)))⟩,
    ⟨(some 5), none, .move (.c (.sc (.int .i64 (0))))⟩])
  (.seq (.block 0 (.seq (.ops [⟨(some 21), none, .load (some 6) (.t 2)⟩,
     ⟨(some 22), none, .call (.c (.fn (.func 23) [] [])) [(.t 21)]⟩,
     ⟨(some 23), none, .un .not (.t 22)⟩,
     ⟨(some 20), none, .move (.t 23)⟩])
   (.cond (.t 20)
    (.seq (.ops [⟨(some 4), none, .move (.c (.sc (.pointer none)))⟩,
      ⟨(some 5), none, .move (.c (.sc (.int .i64 (24))))⟩])
    (.ret))
    (.seq (.ops [⟨(some 25), none, .move (.t 1)⟩,
      ⟨(some 26), none, .len (.t 25)⟩,
      ⟨(some 27), none, .bin .eql (.t 26) (.c (.sc (.int .i64 (0))))⟩,
      ⟨(some 24), none, .move (.t 27)⟩])
    (.cond (.t 24)
     (.seq (.ops [⟨(some 4), none, .move (.c (.sc (.pointer none)))⟩,
       ⟨(some 5), none, .move (.c (.sc (.int .i64 (4))))⟩])
     (.ret))
     (.seq (.ops [⟨(some 29), none, .move (.t 1)⟩,
       ⟨(some 30), none, .len (.t 29)⟩,
       ⟨(some 31), none, .bin .gtr (.t 30) (.c (.sc (.int .i64 (8192))))⟩,
       ⟨(some 28), none, .move (.t 31)⟩])
     (.cond (.t 28)
      (.seq (.ops [⟨(some 4), none, .move (.c (.sc (.pointer none)))⟩,
        ⟨(some 5), none, .move (.c (.sc (.int .i64 (9))))⟩])
      (.ret))
      (.seq (.ops [⟨(some 33), none, .move (.t 1)⟩,
        ⟨(some 34), none, .mkFn (.func 49) [] [(.t 2)]⟩,
        ⟨(some 35), none, .call (.c (.fn (.func 48) [] [])) [(.t 33), (.t 34)]⟩,
        ⟨(some 32), none, .move (.t 35)⟩])
      (.cond (.t 32)
       (.seq (.ops [⟨(some 4), none, .move (.c (.sc (.pointer none)))⟩,
         ⟨(some 5), none, .move (.c (.sc (.int .i64 (2))))⟩])
       (.ret))
       (.skip))))))))))
  (.seq (.ops [⟨(some 37), none, .load (some 6) (.t 2)⟩,
    ⟨(some 38), none, .call (.c (.fn (.func 50) [] [])) [(.t 37)]⟩,
    ⟨(some 36), none, .move (.t 38)⟩,
    ⟨(some 39), none, .extract 0 (.t 36)⟩,
    ⟨(some 40), none, .extract 1 (.t 36)⟩,
    ⟨(some 6), none, .move (.t 39)⟩,
    ⟨(some 7), none, .move (.t 40)⟩])
  (.seq (.ops [⟨(some 8), none, .move (.c (.sl true .full 0 []))⟩])
  (.seq (.ops [⟨(some 41), none, .buildSl 1 [(.c (.sc (.int .i64 (0))))]⟩,
    ⟨(some 9), none, .move (.t 41)⟩,
    ⟨(some 10), none, .move (.c (.sc (.int .i64 (0))))⟩])
  (.seq (.seq (.ops [⟨(some 42), none, .move (.t 1)⟩,
    ⟨(some 43), none, .len (.t 42)⟩,
    ⟨(some 44), none, .move (.c (.sc (.int .i64 (0))))⟩])
  (.block 1 (.loop (.seq (.ops [⟨(some 45), none, .bin .lss (.t 44) (.t 43)⟩])
    (.seq (.cond (.t 45)
     (.skip)
     (.exit 1))
    (.seq (.block 2 (.seq (.ops [⟨(some 46), none, .iaddrS 2 (.t 42) (.t 44)⟩,
       ⟨(some 47), none, .load (some 2) (.t 46)⟩,
       ⟨(some 12), none, .alloc [(.sc (.int .i64 (0))), (.sc (.int .i64 (0)))]⟩,
       ⟨none, none, .store 2 (.t 12) (.t 47)⟩])
     (.seq (.ops [⟨(some 48), none, .move (.t 7)⟩,
       ⟨(some 49), none, .faddr 0 (.t 12)⟩,
       ⟨(some 50), none, .load none (.t 49)⟩,
       ⟨(some 51), none, .iaddrS 1 (.t 48) (.t 50)⟩,
       ⟨(some 52), none, .load none (.t 51)⟩,
       ⟨(some 53), none, .buildSl 1 [(.t 52)]⟩,
       ⟨(some 13), none, .move (.t 53)⟩])
     (.seq (.seq (.ops [⟨(some 54), none, .faddr 3 (.t 2)⟩,
       ⟨(some 55), none, .load none (.t 54)⟩,
       ⟨(some 56), none, .faddr 0 (.t 12)⟩,
       ⟨(some 57), none, .load none (.t 56)⟩,
       ⟨(some 58), none, .iaddrS 22 (.t 55) (.t 57)⟩,
       ⟨(some 59), none, .faddr 20 (.t 58)⟩,
       ⟨(some 60), none, .load none (.t 59)⟩,
       ⟨(some 61), none, .len (.t 60)⟩,
       ⟨(some 62), none, .move (.c (.sc (.int .i64 (0))))⟩])
     (.block 3 (.loop (.seq (.ops [⟨(some 63), none, .bin .lss (.t 62) (.t 61)⟩])
       (.seq (.cond (.t 63)
        (.skip)
        (.exit 3))
       (.seq (.block 4 (.seq (.ops [⟨(some 64), none, .iaddrS 3 (.t 60) (.t 62)⟩,
          ⟨(some 65), none, .load (some 3) (.t 64)⟩,
          ⟨(some 15), none, .alloc [(.sc (.int .i64 (0))), (.sc (.int .i64 (0))), (.sc (.bool false))]⟩,
          ⟨none, none, .store 3 (.t 15) (.t 65)⟩])
        (.seq (.ops [⟨(some 66), none, .faddr 0 (.t 15)⟩,
          ⟨(some 67), none, .load none (.t 66)⟩,
          ⟨(some 68), none, .bin .gtr (.t 67) (.c (.sc (.int .i64 (0))))⟩])
        (.cond (.t 68)
         (.draw [⟨false, [13], [], ⟨(some 69), none, .move (.t 13)⟩⟩,
           ⟨false, [7], [], ⟨(some 70), none, .move (.t 7)⟩⟩,
           ⟨false, [12], [], ⟨(some 71), none, .faddr 0 (.t 12)⟩⟩,
           ⟨false, [71], [], ⟨(some 72), none, .load none (.t 71)⟩⟩,
           ⟨false, [70, 72], [], ⟨(some 73), none, .iaddrS 1 (.t 70) (.t 72)⟩⟩,
           ⟨false, [73], [], ⟨(some 74), none, .load none (.t 73)⟩⟩,
           ⟨false, [15], [], ⟨(some 75), none, .faddr 0 (.t 15)⟩⟩,
           ⟨false, [75], [], ⟨(some 76), none, .load none (.t 75)⟩⟩,
           ⟨true, [74, 76], [], ⟨(some 77), none, .bin .add (.t 74) (.t 76)⟩⟩,
           ⟨true, [77], [], ⟨(some 78), none, .buildSl 1 [(.t 77)]⟩⟩]
           [⟨(some 79), none, .append 1 8 (.t 69) (.t 78)⟩,
           ⟨(some 13), none, .move (.t 79)⟩])
         (.skip)))))
       (.ops [⟨(some 80), none, .bin .add (.t 62) (.c (.sc (.int .i64 (1))))⟩,
         ⟨(some 62), none, .move (.t 80)⟩])))))))
     (.seq (.ops [⟨(some 81), none, .move (.t 13)⟩,
       ⟨(some 82), none, .move (.t 7)⟩,
       ⟨(some 83), none, .faddr 0 (.t 12)⟩,
       ⟨(some 84), none, .load none (.t 83)⟩,
       ⟨(some 85), none, .bin .add (.t 84) (.c (.sc (.int .i64 (1))))⟩,
       ⟨(some 86), none, .iaddrS 1 (.t 82) (.t 85)⟩,
       ⟨(some 87), none, .load none (.t 86)⟩,
       ⟨(some 88), none, .buildSl 1 [(.t 87)]⟩,
       ⟨(some 89), none, .append 1 8 (.t 81) (.t 88)⟩,
       ⟨(some 13), none, .move (.t 89)⟩])
     (.seq (.seq (.ops [⟨(some 16), none, .move (.c (.sc (.int .i64 (1))))⟩])
     (.block 5 (.loop (.seq (.seq (.ops [⟨(some 90), none, .move (.t 16)⟩,
         ⟨(some 91), none, .move (.t 13)⟩,
         ⟨(some 92), none, .len (.t 91)⟩,
         ⟨(some 93), none, .bin .lss (.t 90) (.t 92)⟩])
       (.cond (.t 93)
        (.skip)
        (.exit 5)))
       (.seq (.block 6 (.seq (.ops [⟨(some 96), none, .move (.t 6)⟩,
          ⟨(some 97), none, .move (.t 13)⟩,
          ⟨(some 98), none, .move (.t 16)⟩,
          ⟨(some 99), none, .bin .sub (.t 98) (.c (.sc (.int .i64 (1))))⟩,
          ⟨(some 100), none, .iaddrS 1 (.t 97) (.t 99)⟩,
          ⟨(some 101), none, .load none (.t 100)⟩,
          ⟨(some 102), none, .call (.c (.fn (.func 51) [] [])) [(.t 96), (.t 101)]⟩,
          ⟨(some 17), none, .move (.t 102)⟩])
        (.seq (.draw [⟨false, [10], [], ⟨(some 103), none, .move (.t 10)⟩⟩,
          ⟨false, [13], [], ⟨(some 104), none, .move (.t 13)⟩⟩,
          ⟨false, [16], [], ⟨(some 105), none, .move (.t 16)⟩⟩,
          ⟨false, [104, 105], [], ⟨(some 106), none, .iaddrS 1 (.t 104) (.t 105)⟩⟩,
          ⟨false, [106], [], ⟨(some 107), none, .load none (.t 106)⟩⟩,
          ⟨false, [103, 107], [], ⟨(some 108), none, .bin .add (.t 103) (.t 107)⟩⟩,
          ⟨false, [13], [], ⟨(some 109), none, .move (.t 13)⟩⟩,
          ⟨false, [16], [], ⟨(some 110), none, .move (.t 16)⟩⟩,
          ⟨false, [110], [], ⟨(some 111), none, .bin .sub (.t 110) (.c (.sc (.int .i64 (1))))⟩⟩,
          ⟨false, [109, 111], [], ⟨(some 112), none, .iaddrS 1 (.t 109) (.t 111)⟩⟩,
          ⟨false, [112], [], ⟨(some 113), none, .load none (.t 112)⟩⟩]
          [⟨(some 114), none, .bin .sub (.t 108) (.t 113)⟩,
          ⟨(some 18), none, .move (.t 114)⟩])
        (.seq (.draw [⟨false, [8], [], ⟨(some 115), none, .move (.t 8)⟩⟩,
          ⟨false, [10], [], ⟨(some 116), none, .move (.t 10)⟩⟩,
          ⟨false, [18], [], ⟨(some 117), none, .move (.t 18)⟩⟩,
          ⟨false, [6], [], ⟨(some 118), none, .move (.t 6)⟩⟩,
          ⟨false, [17], [], ⟨(some 119), none, .move (.t 17)⟩⟩,
          ⟨false, [13], [], ⟨(some 120), none, .move (.t 13)⟩⟩,
          ⟨false, [16], [], ⟨(some 121), none, .move (.t 16)⟩⟩,
          ⟨false, [121], [], ⟨(some 122), none, .bin .sub (.t 121) (.c (.sc (.int .i64 (1))))⟩⟩,
          ⟨false, [120, 122], [], ⟨(some 123), none, .iaddrS 1 (.t 120) (.t 122)⟩⟩,
          ⟨false, [123], [], ⟨(some 124), none, .load none (.t 123)⟩⟩,
          ⟨true, [118, 119, 124], [], ⟨(some 125), none, .call (.c (.fn (.func 53) [] [])) [(.t 118), (.t 119), (.t 124)]⟩⟩,
          ⟨false, [6], [], ⟨(some 126), none, .move (.t 6)⟩⟩,
          ⟨false, [17], [], ⟨(some 127), none, .move (.t 17)⟩⟩,
          ⟨false, [13], [], ⟨(some 128), none, .move (.t 13)⟩⟩,
          ⟨false, [16], [], ⟨(some 129), none, .move (.t 16)⟩⟩,
          ⟨false, [128, 129], [], ⟨(some 130), none, .iaddrS 1 (.t 128) (.t 129)⟩⟩,
          ⟨false, [130], [10], ⟨(some 131), none, .load none (.t 130)⟩⟩,
          ⟨true, [126, 127, 131], [], ⟨(some 132), none, .call (.c (.fn (.func 53) [] [])) [(.t 126), (.t 127), (.t 131)]⟩⟩,
          ⟨true, [116, 117, 125, 132], [], ⟨(some 133), none, .build [(.sc (.int .i64 (0))), (.sc (.int .i64 (0))), (.sc (.int .i64 (0))), (.sc (.int .i64 (0))), (.sc (.int .i64 (0)))] [((0, 1), (.t 116)), ((1, 1), (.t 117)), ((2, 1), (.t 125)), ((3, 1), (.t 132))]⟩⟩]
          [⟨(some 134), none, .call (.c (.fn (.func 52) [] [])) [(.t 115), (.t 133)]⟩,
          ⟨(some 8), none, .move (.t 134)⟩])
        (.ops [⟨(some 135), none, .move (.t 18)⟩,
          ⟨(some 10), none, .move (.t 135)⟩])))))
       (.ops [⟨(some 94), none, .move (.t 16)⟩,
         ⟨(some 95), none, .bin .add (.t 94) (.c (.sc (.int .i64 (1))))⟩,
         ⟨(some 16), none, .move (.t 95)⟩]))))))
     (.ops [⟨(some 136), none, .move (.t 9)⟩,
       ⟨(some 137), none, .move (.t 10)⟩,
       ⟨(some 138), none, .buildSl 1 [(.t 137)]⟩,
       ⟨(some 139), none, .append 1 8 (.t 136) (.t 138)⟩,
       ⟨(some 9), none, .move (.t 139)⟩])))))))
    (.ops [⟨(some 140), none, .bin .add (.t 44) (.c (.sc (.int .i64 (1))))⟩,
      ⟨(some 44), none, .move (.t 140)⟩])))))))
  (.seq (.ops [⟨(some 141), none, .move (.t 8)⟩,
    ⟨(some 142), none, .call (.c (.fn (.func 54) [] [])) [(.t 141)]⟩,
    ⟨(some 19), none, .move (.t 142)⟩])
  (.seq (.ops [⟨(some 143), none, .move (.t 19)⟩,
    ⟨(some 144), none, .move (.t 9)⟩,
    ⟨(some 145), none, .nilCheck (.t 143)⟩,
    ⟨(some 146), none, .faddr 1 (.t 145)⟩,
    ⟨none, none, .store 1 (.t 146) (.t 144)⟩])
  (.seq (.ops [⟨(some 147), none, .move (.t 19)⟩,
    ⟨(some 4), none, .move (.t 147)⟩,
    ⟨(some 5), none, .move (.c (.sc (.int .i64 (0))))⟩])
  (.ret))))))))),
  [.t 4, .t 5]⟩
theorem ok26 : EntryOk Tryz.prog 26 af26 := ⟨Tryz.f26, _, Tryz.func26, by decide, rfl, by kernel_rfl, by kernel_rfl, rfl⟩
/-- (*hemiola/perform.player).play -/
noncomputable def af30 : AF := ⟨239, .seq (.ops [⟨(some 2), none, .box (.t 0)⟩,
    ⟨(some 3), none, .box (.t 1)⟩,
    ⟨(some 4), none, .move (.c (.sl true .full 0 []))⟩])
  (.seq (.draw [⟨false, [2], [], ⟨(some 26), none, .load none (.t 2)⟩⟩,
    ⟨false, [26], [], ⟨(some 27), none, .nilCheck (.t 26)⟩⟩,
    ⟨false, [27], [], ⟨(some 28), none, .faddr 10 (.t 27)⟩⟩,
    ⟨false, [28], [], ⟨(some 29), none, .load none (.t 28)⟩⟩,
    ⟨false, [3], [], ⟨(some 30), none, .faddr 6 (.t 3)⟩⟩,
    ⟨false, [30], [], ⟨(some 31), none, .load (some 2) (.t 30)⟩⟩,
    ⟨true, [29, 31], [], ⟨(some 32), none, .lookup [.i, .i] true (.agg [(.sc (.int .i64 (0))), (.sc (.int .i64 (0))), (.sc (.int .i64 (0))), (.sc (.int .i64 (0))), (.sc (.int .i64 (0))), (.sl true .full 0 []), (.sl true .full 0 []), (.sc (.int .i64 (0))), (.sc (.int .i64 (0))), (.sc (.int .i64 (0))), (.sl true .full 0 []), (.sc (.int .i64 (0))), (.sc (.int .i64 (0))), (.sc (.int .i64 (0))), (.sc (.int .i64 (0))), (.sc (.int .i64 (0))), (.sc (.int .i64 (0))), (.sc (.int .i64 (0)))]) (.t 29) (.t 31) false⟩⟩,
    ⟨false, [], [6], ⟨(some 5), none, .alloc [(.sc (.int .i64 (0))), (.sc (.int .i64 (0))), (.sc (.int .i64 (0))), (.sc (.int .i64 (0))), (.sc (.int .i64 (0))), (.sl true .full 0 []), (.sl true .full 0 []), (.sc (.int .i64 (0))), (.sc (.int .i64 (0))), (.sc (.int .i64 (0))), (.sl true .full 0 []), (.sc (.int .i64 (0))), (.sc (.int .i64 (0))), (.sc (.int .i64 (0))), (.sc (.int .i64 (0))), (.sc (.int .i64 (0))), (.sc (.int .i64 (0))), (.sc (.int .i64 (0)))]⟩⟩]
    [⟨none, none, .store 18 (.t 5) (.t 32)⟩])
  (.seq (.seq (.draw [⟨false, [2], [], ⟨(some 33), none, .load none (.t 2)⟩⟩,
    ⟨false, [33], [], ⟨(some 34), none, .nilCheck (.t 33)⟩⟩,
    ⟨false, [34], [], ⟨(some 35), none, .faddr 11 (.t 34)⟩⟩,
    ⟨false, [35], [], ⟨(some 36), none, .load none (.t 35)⟩⟩,
    ⟨false, [5], [], ⟨(some 37), none, .faddr 13 (.t 5)⟩⟩,
    ⟨false, [37], [], ⟨(some 38), none, .load none (.t 37)⟩⟩]
    [⟨(some 39), none, .lookup [.i] false (.sc .nilFunc) (.t 36) (.t 38) false⟩,
    ⟨(some 40), none, .eqN .fn false (.t 39) (.c (.sc .nilFunc))⟩])
  (.cond (.t 40)
   (.seq (.draw [⟨false, [2], [16], ⟨(some 41), none, .load none (.t 2)⟩⟩,
     ⟨false, [41], [], ⟨(some 42), none, .nilCheck (.t 41)⟩⟩,
     ⟨false, [42], [], ⟨(some 43), none, .faddr 11 (.t 42)⟩⟩,
     ⟨false, [43], [16], ⟨(some 44), none, .load none (.t 43)⟩⟩,
     ⟨false, [5], [], ⟨(some 45), none, .faddr 13 (.t 5)⟩⟩,
     ⟨false, [45], [16], ⟨(some 46), none, .load none (.t 45)⟩⟩,
     ⟨false, [2], [], ⟨(some 47), none, .load none (.t 2)⟩⟩,
     ⟨false, [47], [], ⟨(some 48), none, .nilCheck (.t 47)⟩⟩,
     ⟨false, [48], [], ⟨(some 49), none, .faddr 0 (.t 48)⟩⟩,
     ⟨false, [49], [], ⟨(some 50), none, .load (some 6) (.t 49)⟩⟩,
     ⟨false, [2], [], ⟨(some 51), none, .load none (.t 2)⟩⟩,
     ⟨false, [51], [], ⟨(some 52), none, .nilCheck (.t 51)⟩⟩,
     ⟨false, [52], [], ⟨(some 53), none, .faddr 10 (.t 52)⟩⟩,
     ⟨false, [53], [], ⟨(some 54), none, .load none (.t 53)⟩⟩,
     ⟨false, [5], [], ⟨(some 55), none, .faddr 13 (.t 5)⟩⟩,
     ⟨false, [55], [], ⟨(some 56), none, .load none (.t 55)⟩⟩,
     ⟨true, [50, 54, 56], [], ⟨(some 57), none, .call (.c (.fn (.func 33) [] [])) [(.t 50), (.t 54), (.t 56)]⟩⟩]
     [⟨none, none, .mapUp [.i] false (.t 44) (.t 46) (.t 57)⟩])
   (.draw [⟨false, [2], [12], ⟨(some 59), none, .load none (.t 2)⟩⟩,
     ⟨false, [59], [], ⟨(some 60), none, .nilCheck (.t 59)⟩⟩,
     ⟨false, [60], [], ⟨(some 61), none, .faddr 12 (.t 60)⟩⟩,
     ⟨false, [61], [12], ⟨(some 62), none, .load none (.t 61)⟩⟩,
     ⟨false, [5], [], ⟨(some 63), none, .faddr 13 (.t 5)⟩⟩,
     ⟨false, [63], [12], ⟨(some 64), none, .load none (.t 63)⟩⟩,
     ⟨false, [2], [], ⟨(some 65), none, .load none (.t 2)⟩⟩,
     ⟨false, [65], [], ⟨(some 66), none, .nilCheck (.t 65)⟩⟩,
     ⟨false, [66], [], ⟨(some 67), none, .faddr 0 (.t 66)⟩⟩,
     ⟨false, [67], [], ⟨(some 68), none, .load (some 6) (.t 67)⟩⟩,
     ⟨false, [5], [], ⟨(some 69), none, .faddr 13 (.t 5)⟩⟩,
     ⟨false, [69], [], ⟨(some 70), none, .load none (.t 69)⟩⟩,
     ⟨true, [68, 70], [], ⟨(some 71), none, .call (.c (.fn (.func 59) [] [])) [(.t 68), (.t 70)]⟩⟩,
     ⟨false, [71], [], ⟨(some 58), none, .move (.t 71)⟩⟩,
     ⟨false, [58], [], ⟨(some 72), none, .extract 0 (.t 58)⟩⟩,
     ⟨false, [58], [], ⟨(some 73), none, .extract 1 (.t 58)⟩⟩,
     ⟨true, [62, 64, 72], [], ⟨none, none, .mapUp [.i] false (.t 62) (.t 64) (.t 72)⟩⟩]
     []))
   (.skip)))
  (.seq (.draw [⟨false, [5], [7], ⟨(some 74), none, .load (some 18) (.t 5)⟩⟩,
    ⟨false, [2], [], ⟨(some 75), none, .load none (.t 2)⟩⟩,
    ⟨false, [75], [], ⟨(some 76), none, .nilCheck (.t 75)⟩⟩,
    ⟨false, [76], [], ⟨(some 77), none, .faddr 11 (.t 76)⟩⟩,
    ⟨false, [77], [], ⟨(some 78), none, .load none (.t 77)⟩⟩,
    ⟨false, [5], [], ⟨(some 79), none, .faddr 13 (.t 5)⟩⟩,
    ⟨false, [79], [], ⟨(some 80), none, .load none (.t 79)⟩⟩,
    ⟨true, [78, 80], [], ⟨(some 81), none, .lookup [.i] false (.sc .nilFunc) (.t 78) (.t 80) false⟩⟩,
    ⟨true, [74, 81], [], ⟨(some 82), none, .call (.c (.fn (.func 32) [] [])) [(.t 74), (.t 81)]⟩⟩,
    ⟨false, [], [7, 8], ⟨(some 6), none, .alloc [(.sc (.int .i64 (0)))]⟩⟩]
    [⟨none, none, .store 1 (.t 6) (.t 82)⟩])
  (.seq (.ops [⟨(some 7), none, .alloc [(.sl true .full 0 [])]⟩])
  (.seq (.ops [⟨(some 83), none, .mkFn (.func 60) [] [(.t 2), (.t 7), (.t 6), (.t 3)]⟩,
    ⟨(some 8), none, .move (.t 83)⟩])
  (.seq (.draw [⟨false, [5], [], ⟨(some 85), none, .faddr 0 (.t 5)⟩⟩,
    ⟨false, [85], [], ⟨(some 86), none, .faddr 6 (.t 85)⟩⟩,
    ⟨false, [86], [], ⟨(some 87), none, .load none (.t 86)⟩⟩,
    ⟨false, [5], [], ⟨(some 88), none, .faddr 0 (.t 5)⟩⟩,
    ⟨false, [88], [], ⟨(some 89), none, .faddr 5 (.t 88)⟩⟩,
    ⟨false, [89], [], ⟨(some 90), none, .load none (.t 89)⟩⟩,
    ⟨false, [90], [], ⟨(some 91), none, .iaddrS 5 (.t 90) (.c (.sc (.int .i64 (0))))⟩⟩,
    ⟨false, [91], [], ⟨(some 92), none, .faddr 0 (.t 91)⟩⟩,
    ⟨false, [92], [], ⟨(some 93), none, .load (some 3) (.t 92)⟩⟩,
    ⟨false, [5], [], ⟨(some 94), none, .faddr 17 (.t 5)⟩⟩,
    ⟨false, [94], [], ⟨(some 95), none, .load none (.t 94)⟩⟩,
    ⟨true, [87, 93, 95], [], ⟨(some 96), none, .call (.c (.fn (.func 62) [] [])) [(.t 87), (.t 93), (.t 95)]⟩⟩,
    ⟨true, [96], [], ⟨(some 84), none, .move (.t 96)⟩⟩,
    ⟨true, [84], [], ⟨(some 97), none, .extract 0 (.t 84)⟩⟩,
    ⟨true, [84], [], ⟨(some 98), none, .extract 1 (.t 84)⟩⟩,
    ⟨true, [84], [], ⟨(some 99), none, .extract 2 (.t 84)⟩⟩,
    ⟨true, [97], [], ⟨(some 9), none, .move (.t 97)⟩⟩,
    ⟨true, [98], [], ⟨(some 10), none, .move (.t 98)⟩⟩]
    [⟨(some 11), none, .move (.t 99)⟩])
  (.seq (.seq (.ops [⟨(some 100), none, .faddr 8 (.t 3)⟩,
    ⟨(some 101), none, .load none (.t 100)⟩,
    ⟨(some 102), none, .bin .eql (.t 101) (.c (.sc (.int .i64 (0))))⟩])
  (.cond (.t 102)
   (.seq (.ops [⟨(some 103), none, .move (.t 9)⟩,
     ⟨(some 104), none, .len (.t 103)⟩,
     ⟨(some 105), none, .move (.c (.sc (.int .i64 (0))))⟩])
   (.block 0 (.loop (.seq (.ops [⟨(some 106), none, .bin .lss (.t 105) (.t 104)⟩])
     (.seq (.cond (.t 106)
      (.skip)
      (.exit 0))
     (.seq (.block 1 (.seq (.ops [⟨(some 107), none, .iaddrS 3 (.t 103) (.t 105)⟩,
        ⟨(some 108), none, .load (some 3) (.t 107)⟩,
        ⟨(some 13), none, .alloc [(.sc (.int .i64 (0))), (.sc (.int .i64 (0))), (.sc (.int .i64 (0)))]⟩,
        ⟨none, none, .store 3 (.t 13) (.t 108)⟩])
      (.ops [⟨(some 109), none, .move (.t 8)⟩,
        ⟨(some 110), none, .faddr 0 (.t 3)⟩,
        ⟨(some 111), none, .load none (.t 110)⟩,
        ⟨(some 112), none, .faddr 0 (.t 13)⟩,
        ⟨(some 113), none, .load none (.t 112)⟩,
        ⟨(some 114), none, .bin .add (.t 111) (.t 113)⟩,
        ⟨(some 115), none, .faddr 0 (.t 3)⟩,
        ⟨(some 116), none, .load none (.t 115)⟩,
        ⟨(some 117), none, .faddr 1 (.t 13)⟩,
        ⟨(some 118), none, .load none (.t 117)⟩,
        ⟨(some 119), none, .bin .add (.t 116) (.t 118)⟩,
        ⟨(some 120), none, .faddr 0 (.t 3)⟩,
        ⟨(some 121), none, .load none (.t 120)⟩,
        ⟨(some 122), none, .faddr 1 (.t 13)⟩,
        ⟨(some 123), none, .load none (.t 122)⟩,
        ⟨(some 124), none, .bin .add (.t 121) (.t 123)⟩,
        ⟨(some 125), none, .faddr 2 (.t 3)⟩,
        ⟨(some 126), none, .load none (.t 125)⟩,
        ⟨(some 127), none, .faddr 2 (.t 13)⟩,
        ⟨(some 128), none, .load none (.t 127)⟩,
        ⟨(some 129), none, .bin .add (.t 126) (.t 128)⟩,
        ⟨(some 130), none, .call (.t 109) [(.t 114), (.t 119), (.t 124), (.t 129)]⟩])))
     (.ops [⟨(some 131), none, .bin .add (.t 105) (.c (.sc (.int .i64 (1))))⟩,
       ⟨(some 105), none, .move (.t 131)⟩])))))))
   (.skip)))
  (.seq (.ops [⟨(some 14), none, .move (.c (.sc (.int .i64 (0))))⟩])
  (.seq (.seq (.ops [⟨(some 132), none, .faddr 8 (.t 3)⟩,
    ⟨(some 133), none, .load none (.t 132)⟩,
    ⟨(some 134), none, .faddr 0 (.t 5)⟩,
    ⟨(some 135), none, .faddr 5 (.t 134)⟩,
    ⟨(some 136), none, .load none (.t 135)⟩,
    ⟨(some 137), none, .len (.t 136)⟩,
    ⟨(some 138), none, .bin .sub (.t 137) (.c (.sc (.int .i64 (1))))⟩,
    ⟨(some 139), none, .bin .eql (.t 133) (.t 138)⟩])
  (.cond (.t 139)
   (.ops [⟨(some 140), none, .faddr 0 (.t 5)⟩,
     ⟨(some 141), none, .faddr 8 (.t 140)⟩,
     ⟨(some 142), none, .load none (.t 141)⟩,
     ⟨(some 14), none, .move (.t 142)⟩])
   (.skip)))
  (.seq (.draw [⟨false, [5], [], ⟨(some 144), none, .faddr 0 (.t 5)⟩⟩,
    ⟨false, [144], [], ⟨(some 145), none, .faddr 5 (.t 144)⟩⟩,
    ⟨false, [145], [14], ⟨(some 146), none, .load none (.t 145)⟩⟩,
    ⟨false, [3], [], ⟨(some 147), none, .faddr 8 (.t 3)⟩⟩,
    ⟨false, [147], [14], ⟨(some 148), none, .load none (.t 147)⟩⟩,
    ⟨false, [146, 148], [], ⟨(some 149), none, .iaddrS 5 (.t 146) (.t 148)⟩⟩,
    ⟨false, [149], [], ⟨(some 150), none, .faddr 0 (.t 149)⟩⟩,
    ⟨false, [150], [14], ⟨(some 151), none, .load (some 3) (.t 150)⟩⟩,
    ⟨false, [2], [], ⟨(some 152), none, .load none (.t 2)⟩⟩,
    ⟨false, [152], [], ⟨(some 153), none, .nilCheck (.t 152)⟩⟩,
    ⟨false, [153], [], ⟨(some 154), none, .faddr 12 (.t 153)⟩⟩,
    ⟨false, [154], [], ⟨(some 155), none, .load none (.t 154)⟩⟩,
    ⟨false, [5], [], ⟨(some 156), none, .faddr 13 (.t 5)⟩⟩,
    ⟨false, [156], [], ⟨(some 157), none, .load none (.t 156)⟩⟩,
    ⟨true, [155, 157], [], ⟨(some 158), none, .lookup [.i] false (.sl true .full 0 []) (.t 155) (.t 157) false⟩⟩,
    ⟨false, [5], [], ⟨(some 159), none, .faddr 15 (.t 5)⟩⟩,
    ⟨false, [159], [14], ⟨(some 160), none, .load none (.t 159)⟩⟩,
    ⟨false, [158, 160], [], ⟨(some 161), none, .iaddrS 10 (.t 158) (.t 160)⟩⟩,
    ⟨false, [161], [], ⟨(some 162), none, .faddr 1 (.t 161)⟩⟩,
    ⟨false, [162], [], ⟨(some 163), none, .load none (.t 162)⟩⟩,
    ⟨true, [151, 163], [], ⟨(some 164), none, .call (.c (.fn (.func 63) [] [])) [(.t 151), (.t 163)]⟩⟩,
    ⟨true, [164], [], ⟨(some 143), none, .move (.t 164)⟩⟩,
    ⟨true, [143], [], ⟨(some 165), none, .extract 0 (.t 143)⟩⟩,
    ⟨true, [143], [], ⟨(some 166), none, .extract 1 (.t 143)⟩⟩,
    ⟨true, [143], [], ⟨(some 167), none, .extract 2 (.t 143)⟩⟩,
    ⟨true, [165], [], ⟨(some 15), none, .move (.t 165)⟩⟩,
    ⟨true, [166], [], ⟨(some 16), none, .move (.t 166)⟩⟩]
    [⟨(some 17), none, .move (.t 167)⟩])
  (.seq (.ops [⟨(some 169), none, .move (.t 14)⟩,
    ⟨(some 170), none, .faddr 1 (.t 3)⟩,
    ⟨(some 171), none, .load none (.t 170)⟩,
    ⟨(some 172), none, .faddr 0 (.t 3)⟩,
    ⟨(some 173), none, .load none (.t 172)⟩,
    ⟨(some 174), none, .bin .sub (.t 171) (.t 173)⟩,
    ⟨(some 175), none, .move (.t 10)⟩,
    ⟨(some 176), none, .bin .sub (.t 174) (.t 175)⟩,
    ⟨(some 177), none, .move (.t 15)⟩,
    ⟨(some 178), none, .move (.t 16)⟩,
    ⟨(some 179), none, .call (.c (.fn (.func 64) [] [])) [(.t 169), (.t 176), (.t 177), (.t 178)]⟩,
    ⟨(some 168), none, .move (.t 179)⟩,
    ⟨(some 180), none, .extract 0 (.t 168)⟩,
    ⟨(some 181), none, .extract 1 (.t 168)⟩,
    ⟨(some 18), none, .move (.t 180)⟩,
    ⟨(some 19), none, .move (.t 181)⟩])
  (.seq (.draw [⟨false, [5], [], ⟨(some 182), none, .faddr 0 (.t 5)⟩⟩,
    ⟨false, [182], [], ⟨(some 183), none, .faddr 7 (.t 182)⟩⟩,
    ⟨false, [183], [5], ⟨(some 184), none, .load none (.t 183)⟩⟩,
    ⟨false, [2], [], ⟨(some 185), none, .load none (.t 2)⟩⟩,
    ⟨false, [5], [], ⟨(some 186), none, .load (some 18) (.t 5)⟩⟩,
    ⟨true, [185, 186], [], ⟨(some 187), none, .call (.c (.fn (.func 66) [] [])) [(.t 185), (.t 186)]⟩⟩]
    [⟨(some 188), none, .call (.c (.fn (.func 65) [] [])) [(.t 184), (.t 187)]⟩,
    ⟨(some 20), none, .move (.t 188)⟩])
  (.seq (.seq (.ops [⟨(some 189), none, .move (.t 18)⟩,
    ⟨(some 190), none, .len (.t 189)⟩,
    ⟨(some 191), none, .move (.c (.sc (.int .i64 (0))))⟩])
  (.block 2 (.loop (.seq (.ops [⟨(some 192), none, .bin .lss (.t 191) (.t 190)⟩])
    (.seq (.cond (.t 192)
     (.skip)
     (.exit 2))
    (.seq (.block 3 (.seq (.ops [⟨(some 193), none, .move (.t 191)⟩,
       ⟨(some 194), none, .iaddrS 3 (.t 189) (.t 191)⟩,
       ⟨(some 195), none, .load (some 3) (.t 194)⟩,
       ⟨(some 22), none, .alloc [(.sc (.int .i64 (0))), (.sc (.int .i64 (0))), (.sc (.int .i64 (0)))]⟩,
       ⟨(some 21), none, .move (.t 193)⟩,
       ⟨none, none, .store 3 (.t 22) (.t 195)⟩])
     (.seq (.draw [⟨false, [3], [], ⟨(some 196), none, .faddr 0 (.t 3)⟩⟩,
       ⟨false, [196], [], ⟨(some 197), none, .load none (.t 196)⟩⟩,
       ⟨false, [10], [], ⟨(some 198), none, .move (.t 10)⟩⟩,
       ⟨false, [197, 198], [], ⟨(some 199), none, .bin .add (.t 197) (.t 198)⟩⟩,
       ⟨false, [22], [], ⟨(some 200), none, .faddr 0 (.t 22)⟩⟩,
       ⟨false, [200], [], ⟨(some 201), none, .load none (.t 200)⟩⟩,
       ⟨false, [199, 201], [], ⟨(some 202), none, .bin .add (.t 199) (.t 201)⟩⟩,
       ⟨false, [3], [], ⟨(some 203), none, .faddr 0 (.t 3)⟩⟩,
       ⟨false, [203], [], ⟨(some 204), none, .load none (.t 203)⟩⟩,
       ⟨false, [10], [], ⟨(some 205), none, .move (.t 10)⟩⟩,
       ⟨false, [204, 205], [], ⟨(some 206), none, .bin .add (.t 204) (.t 205)⟩⟩,
       ⟨false, [22], [], ⟨(some 207), none, .faddr 1 (.t 22)⟩⟩,
       ⟨false, [207], [], ⟨(some 208), none, .load none (.t 207)⟩⟩,
       ⟨false, [206, 208], [], ⟨(some 209), none, .bin .add (.t 206) (.t 208)⟩⟩,
       ⟨false, [202], [], ⟨(some 23), none, .move (.t 202)⟩⟩]
       [⟨(some 24), none, .move (.t 209)⟩])
     (.seq (.ops [⟨(some 210), none, .move (.t 24)⟩,
       ⟨(some 25), none, .move (.t 210)⟩])
     (.seq (.seq (.ops [⟨(some 211), none, .move (.t 21)⟩,
       ⟨(some 212), none, .move (.t 18)⟩,
       ⟨(some 213), none, .len (.t 212)⟩,
       ⟨(some 214), none, .bin .sub (.t 213) (.c (.sc (.int .i64 (1))))⟩,
       ⟨(some 215), none, .bin .eql (.t 211) (.t 214)⟩])
     (.cond (.t 215)
      (.ops [⟨(some 216), none, .move (.t 23)⟩,
        ⟨(some 217), none, .move (.t 24)⟩,
        ⟨(some 218), none, .move (.t 23)⟩,
        ⟨(some 219), none, .bin .sub (.t 217) (.t 218)⟩,
        ⟨(some 220), none, .move (.t 20)⟩,
        ⟨(some 221), none, .bin .mul (.t 219) (.t 220)⟩,
        ⟨(some 222), none, .bin .quo (.t 221) (.c (.sc (.int .i64 (100))))⟩,
        ⟨(some 223), none, .bin .add (.t 216) (.t 222)⟩,
        ⟨(some 224), none, .move (.t 23)⟩,
        ⟨(some 225), none, .bin .add (.t 224) (.c (.sc (.int .i64 (1))))⟩,
        ⟨(some 226), none, .mm true [(.t 223), (.t 225)]⟩,
        ⟨(some 25), none, .move (.t 226)⟩])
      (.skip)))
     (.ops [⟨(some 227), none, .move (.t 8)⟩,
       ⟨(some 228), none, .move (.t 23)⟩,
       ⟨(some 229), none, .move (.t 24)⟩,
       ⟨(some 230), none, .move (.t 25)⟩,
       ⟨(some 231), none, .faddr 2 (.t 3)⟩,
       ⟨(some 232), none, .load none (.t 231)⟩,
       ⟨(some 233), none, .faddr 2 (.t 22)⟩,
       ⟨(some 234), none, .load none (.t 233)⟩,
       ⟨(some 235), none, .bin .add (.t 232) (.t 234)⟩,
       ⟨(some 236), none, .call (.t 227) [(.t 228), (.t 229), (.t 230), (.t 235)]⟩]))))))
    (.ops [⟨(some 237), none, .bin .add (.t 191) (.c (.sc (.int .i64 (1))))⟩,
      ⟨(some 191), none, .move (.t 237)⟩])))))))
  (.seq (.ops [⟨(some 238), none, .load none (.t 7)⟩,
    ⟨(some 4), none, .move (.t 238)⟩])
  (.ret))))))))))))))),
  [.t 4]⟩
theorem ok30 : EntryOk Tryz.prog 30 af30 := ⟨Tryz.f30, _, Tryz.func30, by decide, rfl, by kernel_rfl, by kernel_rfl, rfl⟩
/-- hemiola/check.all -/
noncomputable def af43 : AF := ⟨94, .seq (.ops [⟨(some 1), none, .box (.t 0)⟩,
    ⟨(some 2), none, .move (.c (.sl true .full 0 []))⟩])
  (.seq (.ops [⟨(some 7), none, .load (some 6) (.t 1)⟩,
    ⟨(some 8), none, .build [(.sc (.string ⟨#[]⟩)), (.sc (.bool false)), (.sl true .full 0 []), (.sl true .full 0 []), (.sl true .full 0 []), (.sl true .full 0 []), (.sc (.int .i64 (0))), (.sl true .full 0 [])] [((0, 6), (.t 7))]⟩,
    ⟨(some 9), none, .box (.t 8)⟩,
    ⟨(some 3), none, .move (.t 9)⟩])
  (.seq (.ops [⟨(some 10), none, .move (.t 3)⟩,
    ⟨(some 11), none, .mkFn (.func 92) [(.t 10)] []⟩,
    ⟨(some 12), none, .move (.t 3)⟩,
    ⟨(some 13), none, .mkFn (.func 93) [(.t 12)] []⟩,
    ⟨(some 14), none, .move (.t 3)⟩,
    ⟨(some 15), none, .mkFn (.func 94) [(.t 14)] []⟩,
    ⟨(some 16), none, .move (.t 3)⟩,
    ⟨(some 17), none, .mkFn (.func 95) [(.t 16)] []⟩,
    ⟨(some 18), none, .move (.t 3)⟩,
    ⟨(some 19), none, .mkFn (.func 96) [(.t 18)] []⟩,
    ⟨(some 20), none, .move (.t 3)⟩,
    ⟨(some 21), none, .mkFn (.func 97) [(.t 20)] []⟩,
    ⟨(some 22), none, .move (.t 3)⟩,
    ⟨(some 23), none, .mkFn (.func 98) [(.t 22)] []⟩,
    ⟨(some 24), none, .move (.t 3)⟩,
    ⟨(some 25), none, .mkFn (.func 99) [(.t 24)] []⟩,
    ⟨(some 26), none, .move (.t 3)⟩,
    ⟨(some 27), none, .mkFn (.func 100) [(.t 26)] []⟩,
    ⟨(some 28), none, .move (.t 3)⟩,
    ⟨(some 29), none, .mkFn (.func 101) [(.t 28)] []⟩,
    ⟨(some 30), none, .move (.t 3)⟩,
    ⟨(some 31), none, .mkFn (.func 102) [(.t 30)] []⟩,
    ⟨(some 32), none, .move (.t 3)⟩,
    ⟨(some 33), none, .mkFn (.func 103) [(.t 32)] []⟩,
    ⟨(some 34), none, .move (.t 3)⟩,
    ⟨(some 35), none, .mkFn (.func 104) [(.t 34)] []⟩,
    ⟨(some 36), none, .move (.t 3)⟩,
    ⟨(some 37), none, .mkFn (.func 105) [(.t 36)] []⟩,
    ⟨(some 38), none, .move (.t 3)⟩,
    ⟨(some 39), none, .mkFn (.func 106) [(.t 38)] []⟩,
    ⟨(some 40), none, .move (.t 3)⟩,
    ⟨(some 41), none, .mkFn (.func 107) [(.t 40)] []⟩,
    ⟨(some 42), none, .move (.t 3)⟩,
    ⟨(some 43), none, .mkFn (.func 108) [(.t 42)] []⟩,
    ⟨(some 44), none, .buildSl 1 [(.t 11), (.t 13), (.t 15), (.t 17), (.t 19), (.t 21), (.t 23), (.t 25), (.t 27), (.t 29), (.t 31), (.t 33), (.t 35), (.t 37), (.t 39), (.t 41), (.t 43)]⟩,
    ⟨(some 4), none, .move (.t 44)⟩])
  (.seq (.seq (.ops [⟨(some 45), none, .move (.t 4)⟩,
    ⟨(some 46), none, .len (.t 45)⟩,
    ⟨(some 47), none, .move (.c (.sc (.int .i64 (0))))⟩])
  (.block 0 (.loop (.seq (.ops [⟨(some 48), none, .bin .lss (.t 47) (.t 46)⟩])
    (.seq (.cond (.t 48)
     (.skip)
     (.exit 0))
    (.seq (.block 1 (.seq (.ops [⟨(some 49), none, .move (.t 47)⟩,
       ⟨(some 50), none, .iaddrS 1 (.t 45) (.t 47)⟩,
       ⟨(some 51), none, .load none (.t 50)⟩,
       ⟨(some 5), none, .move (.t 49)⟩,
       ⟨(some 6), none, .move (.t 51)⟩])
     (.seq (.ops [⟨(some 52), none, .move (.t 3)⟩,
       ⟨(some 53), none, .move (.t 5)⟩,
       ⟨(some 54), none, .bin .add (.t 53) (.c (.sc (.int .i64 (1))))⟩,
       ⟨(some 55), none, .nilCheck (.t 52)⟩,
       ⟨(some 56), none, .faddr 6 (.t 55)⟩,
       ⟨none, none, .store 1 (.t 56) (.t 54)⟩])
     (.seq (.seq (.ops [⟨(some 57), none, .move (.t 3)⟩,
       ⟨(some 58), none, .nilCheck (.t 57)⟩,
       ⟨(some 59), none, .faddr 7 (.t 58)⟩,
       ⟨(some 60), none, .load none (.t 59)⟩,
       ⟨(some 61), none, .len (.t 60)⟩,
       ⟨(some 62), none, .bin .gtr (.t 61) (.c (.sc (.int .i64 (0))))⟩,
       ⟨(some 63), none, .move (.t 62)⟩,
       ⟨(some 64), (some (63, true)), .move (.t 3)⟩,
       ⟨(some 65), (some (63, true)), .nilCheck (.t 64)⟩,
       ⟨(some 66), (some (63, true)), .faddr 6 (.t 65)⟩,
       ⟨(some 67), (some (63, true)), .load none (.t 66)⟩,
       ⟨(some 68), (some (63, true)), .bin .eql (.t 67) (.c (.sc (.int .i64 (2))))⟩,
       ⟨(some 69), (some (63, true)), .move (.t 68)⟩,
       ⟨(some 70), (some (69, false)), .move (.t 3)⟩,
       ⟨(some 71), (some (69, false)), .nilCheck (.t 70)⟩,
       ⟨(some 72), (some (69, false)), .faddr 6 (.t 71)⟩,
       ⟨(some 73), (some (69, false)), .load none (.t 72)⟩,
       ⟨(some 74), (some (69, false)), .bin .geq (.t 73) (.c (.sc (.int .i64 (10))))⟩,
       ⟨(some 75), (some (69, false)), .move (.t 74)⟩,
       ⟨(some 76), (some (75, true)), .move (.t 3)⟩,
       ⟨(some 77), (some (75, true)), .nilCheck (.t 76)⟩,
       ⟨(some 78), (some (75, true)), .faddr 7 (.t 77)⟩,
       ⟨(some 79), (some (75, true)), .load none (.t 78)⟩,
       ⟨(some 80), (some (75, true)), .iaddrS 3 (.t 79) (.c (.sc (.int .i64 (0))))⟩,
       ⟨(some 81), (some (75, true)), .faddr 0 (.t 80)⟩,
       ⟨(some 82), (some (75, true)), .load none (.t 81)⟩,
       ⟨(some 83), (some (75, true)), .bin .lss (.t 82) (.c (.sc (.int .i64 (10))))⟩,
       ⟨(some 84), (some (69, false)), .pick (.t 75) (.t 83) (.c (.sc (.bool false)))⟩,
       ⟨(some 85), (some (63, true)), .pick (.t 69) (.c (.sc (.bool true))) (.t 84)⟩,
       ⟨(some 86), none, .pick (.t 63) (.t 85) (.c (.sc (.bool false)))⟩])
     (.cond (.t 86)
      (.exit 0)
      (.skip)))
     (.ops [⟨(some 87), none, .move (.t 6)⟩,
       ⟨(some 88), none, .call (.t 87) []⟩])))))
    (.ops [⟨(some 89), none, .bin .add (.t 47) (.c (.sc (.int .i64 (1))))⟩,
      ⟨(some 47), none, .move (.t 89)⟩])))))))
  (.seq (.ops [⟨(some 90), none, .move (.t 3)⟩,
    ⟨(some 91), none, .nilCheck (.t 90)⟩,
    ⟨(some 92), none, .faddr 7 (.t 91)⟩,
    ⟨(some 93), none, .load none (.t 92)⟩,
    ⟨(some 2), none, .move (.t 93)⟩])
  (.ret))))),
  [.t 2]⟩
theorem ok43 : EntryOk Tryz.prog 43 af43 := ⟨Tryz.f43, _, Tryz.func43, by decide, rfl, by kernel_rfl, by kernel_rfl, rfl⟩
/-- hemiola/timeline.Sort -/
noncomputable def af47 : AF := ⟨6, .seq (.ops [⟨(some 2), none, .move (.c (.sl true .full 0 []))⟩])
  (.seq (.ops [⟨(some 3), none, .move (.t 0)⟩,
    ⟨(some 4), none, .call (.c (.fn (.func 118) [] [])) [(.t 3)]⟩,
    ⟨(some 5), none, .call (.c (.fn (.func 117) [] [])) [(.t 4), (.c (.fn (.func 119) [] []))]⟩,
    ⟨(some 2), none, .move (.t 5)⟩])
  (.ret)),
  [.t 2]⟩
theorem ok47 : EntryOk Tryz.prog 47 af47 := ⟨Tryz.f47, _, Tryz.func47, by decide, rfl, by kernel_rfl, by kernel_rfl, rfl⟩
/-- hemiola/tempo.index -/
noncomputable def af51 : AF := ⟨10, .seq (.ops [⟨(some 2), none, .box (.t 0)⟩,
    ⟨(some 3), none, .box (.t 1)⟩,
    ⟨(some 4), none, .move (.c (.sc (.int .i64 (0))))⟩])
  (.seq (.ops [⟨(some 5), none, .load none (.t 2)⟩,
    ⟨(some 6), none, .len (.t 5)⟩,
    ⟨(some 7), none, .mkFn (.func 121) [] [(.t 2), (.t 3)]⟩,
    ⟨(some 8), none, .call (.c (.fn (.func 78) [] [])) [(.t 6), (.t 7)]⟩,
    ⟨(some 9), none, .bin .sub (.t 8) (.c (.sc (.int .i64 (1))))⟩,
    ⟨(some 4), none, .move (.t 9)⟩])
  (.ret)),
  [.t 4]⟩
theorem ok51 : EntryOk Tryz.prog 51 af51 := ⟨Tryz.f51, _, Tryz.func51, by decide, rfl, by kernel_rfl, by kernel_rfl, rfl⟩
/-- hemiola/measure.Length -/
noncomputable def af55 : AF := ⟨34, .seq (.ops [⟨(some 1), none, .box (.t 0)⟩,
    ⟨(some 2), none, .move (.c (.sc (.int .i64 (0))))⟩,
    ⟨(some 3), none, .move (.c (.sc (.int .i64 (0))))⟩])
  (.seq (.ops [⟨(some 7), none, .faddr 2 (.t 1)⟩,
    ⟨(some 8), none, .load (some 8) (.t 7)⟩,
    ⟨(some 9), none, .call (.c (.fn (.func 124) [] [])) [(.t 8)]⟩,
    ⟨(some 6), none, .move (.t 9)⟩,
    ⟨(some 10), none, .extract 0 (.t 6)⟩,
    ⟨(some 11), none, .extract 1 (.t 6)⟩,
    ⟨(some 4), none, .move (.t 10)⟩,
    ⟨(some 5), none, .move (.t 11)⟩])
  (.seq (.block 0 (.seq (.ops [⟨(some 13), none, .move (.t 5)⟩,
     ⟨(some 14), none, .bin .neq (.t 13) (.c (.sc (.int .i64 (0))))⟩,
     ⟨(some 12), none, .move (.t 14)⟩])
   (.cond (.t 12)
    (.seq (.ops [⟨(some 15), none, .move (.t 5)⟩,
      ⟨(some 2), none, .move (.c (.sc (.int .i64 (0))))⟩,
      ⟨(some 3), none, .move (.t 15)⟩])
    (.ret))
    (.seq (.ops [⟨(some 17), none, .faddr 10 (.t 1)⟩,
      ⟨(some 18), none, .load none (.t 17)⟩,
      ⟨(some 19), none, .bin .lss (.t 18) (.c (.sc (.int .i64 (0))))⟩,
      ⟨(some 16), none, .move (.t 19)⟩])
    (.cond (.t 16)
     (.seq (.ops [⟨(some 2), none, .move (.c (.sc (.int .i64 (0))))⟩,
       ⟨(some 3), none, .move (.c (.sc (.int .i64 (2))))⟩])
     (.ret))
     (.seq (.ops [⟨(some 21), none, .faddr 10 (.t 1)⟩,
       ⟨(some 22), none, .load none (.t 21)⟩,
       ⟨(some 23), none, .bin .gtr (.t 22) (.c (.sc (.int .i64 (0))))⟩,
       ⟨(some 20), none, .move (.t 23)⟩])
     (.cond (.t 20)
      (.ops [⟨(some 24), none, .faddr 10 (.t 1)⟩,
        ⟨(some 25), none, .load none (.t 24)⟩,
        ⟨(some 4), none, .move (.t 25)⟩])
      (.skip))))))))
  (.seq (.block 1 (.seq (.ops [⟨(some 27), none, .move (.t 4)⟩,
     ⟨(some 28), none, .bin .rem (.t 27) (.c (.sc (.int .i64 (7560))))⟩,
     ⟨(some 29), none, .bin .neq (.t 28) (.c (.sc (.int .i64 (0))))⟩,
     ⟨(some 26), none, .move (.t 29)⟩])
   (.cond (.t 26)
    (.seq (.ops [⟨(some 2), none, .move (.c (.sc (.int .i64 (0))))⟩,
      ⟨(some 3), none, .move (.c (.sc (.int .i64 (16))))⟩])
    (.ret))
    (.seq (.ops [⟨(some 31), none, .move (.t 4)⟩,
      ⟨(some 32), none, .bin .gtr (.t 31) (.c (.sc (.int .i64 (15482880))))⟩,
      ⟨(some 30), none, .move (.t 32)⟩])
    (.cond (.t 30)
     (.seq (.ops [⟨(some 2), none, .move (.c (.sc (.int .i64 (0))))⟩,
       ⟨(some 3), none, .move (.c (.sc (.int .i64 (5))))⟩])
     (.ret))
     (.skip))))))
  (.seq (.ops [⟨(some 33), none, .move (.t 4)⟩,
    ⟨(some 2), none, .move (.t 33)⟩,
    ⟨(some 3), none, .move (.c (.sc (.int .i64 (0))))⟩])
  (.ret))))),
  [.t 2, .t 3]⟩
theorem ok55 : EntryOk Tryz.prog 55 af55 := ⟨Tryz.f55, _, Tryz.func55, by decide, rfl, by kernel_rfl, by kernel_rfl, rfl⟩
/-- hemiola/timeline.Contexts -/
noncomputable def af59 : AF := ⟨100, .seq (.ops [⟨(some 2), none, .box (.t 0)⟩,
    ⟨(some 4), none, .move (.c (.sl true .full 0 []))⟩,
    ⟨(some 5), none, .move (.c (.sc (.int .i64 (0))))⟩])
  (.seq (.seq (.ops [⟨(some 16), none, .load (some 6) (.t 2)⟩,
    ⟨(some 17), none, .call (.c (.fn (.func 23) [] [])) [(.t 16)]⟩,
    ⟨(some 18), none, .un .not (.t 17)⟩])
  (.cond (.t 18)
   (.seq (.ops [⟨(some 4), none, .move (.c (.sl true .full 0 []))⟩,
     ⟨(some 5), none, .move (.c (.sc (.int .i64 (24))))⟩])
   (.ret))
   (.skip)))
  (.seq (.ops [⟨(some 20), none, .load (some 6) (.t 2)⟩,
    ⟨(some 21), none, .move (.t 1)⟩,
    ⟨(some 22), none, .call (.c (.fn (.func 115) [] [])) [(.t 20), (.t 21)]⟩,
    ⟨(some 19), none, .move (.t 22)⟩,
    ⟨(some 23), none, .extract 0 (.t 19)⟩,
    ⟨(some 24), none, .extract 1 (.t 19)⟩,
    ⟨(some 25), none, .extract 2 (.t 19)⟩,
    ⟨(some 6), none, .move (.t 23)⟩,
    ⟨(some 7), none, .move (.t 24)⟩,
    ⟨(some 8), none, .move (.t 25)⟩])
  (.seq (.seq (.ops [⟨(some 26), none, .move (.t 8)⟩,
    ⟨(some 27), none, .bin .neq (.t 26) (.c (.sc (.int .i64 (0))))⟩])
  (.cond (.t 27)
   (.seq (.ops [⟨(some 4), none, .move (.c (.sl true .full 0 []))⟩,
     ⟨(some 5), none, .move (.c (.sc (.int .i64 (2))))⟩])
   (.ret))
   (.skip)))
  (.seq (.ops [⟨(some 28), none, .faddr 2 (.t 2)⟩,
    ⟨(some 29), none, .load none (.t 28)⟩,
    ⟨(some 30), none, .move (.t 6)⟩,
    ⟨(some 31), none, .iaddrS 6 (.t 29) (.t 30)⟩,
    ⟨(some 32), none, .load (some 6) (.t 31)⟩,
    ⟨(some 9), none, .alloc [(.sc (.int .i64 (0))), (.sc (.int .i64 (0))), (.sc (.string ⟨#[]⟩)), (.sc (.int .i64 (0))), (.sc (.int .i64 (0))), (.sl true .full 0 [])]⟩,
    ⟨none, none, .store 6 (.t 9) (.t 32)⟩])
  (.seq (.ops [⟨(some 33), none, .faddr 5 (.t 9)⟩,
    ⟨(some 34), none, .load none (.t 33)⟩,
    ⟨(some 35), none, .move (.t 7)⟩,
    ⟨(some 36), none, .iaddrS 3 (.t 34) (.t 35)⟩,
    ⟨(some 37), none, .faddr 2 (.t 36)⟩,
    ⟨(some 38), none, .load none (.t 37)⟩,
    ⟨(some 10), none, .move (.t 38)⟩])
  (.seq (.ops [⟨(some 11), none, .move (.c (.sl true .full 0 []))⟩])
  (.seq (.seq (.ops [⟨(some 39), none, .faddr 3 (.t 2)⟩,
    ⟨(some 40), none, .load none (.t 39)⟩,
    ⟨(some 41), none, .len (.t 40)⟩,
    ⟨(some 42), none, .move (.c (.sc (.int .i64 (0))))⟩])
  (.block 0 (.loop (.seq (.ops [⟨(some 43), none, .bin .lss (.t 42) (.t 41)⟩])
    (.seq (.cond (.t 43)
     (.skip)
     (.exit 0))
    (.seq (.block 1 (.seq (.ops [⟨(some 44), none, .iaddrS 22 (.t 40) (.t 42)⟩,
       ⟨(some 45), none, .load (some 22) (.t 44)⟩,
       ⟨(some 13), none, .alloc [(.sc (.int .i64 (0))), (.sc (.int .i64 (0))), (.sc (.int .i64 (0))), (.sc (.int .i64 (0))), (.sc (.int .i64 (0))), (.sc (.int .i64 (0))), (.sc (.int .i64 (0))), (.sc (.int .i64 (0))), (.sc (.int .i64 (0))), (.sc (.int .i64 (0))), (.sc (.int .i64 (0))), (.sc (.int .i64 (0))), (.sc (.bool false)), (.sc (.int .i64 (0))), (.sc (.int .i64 (0))), (.sc (.int .i64 (0))), (.sc (.int .i64 (0))), (.sc (.int .i64 (0))), (.sc (.int .i64 (0))), (.sc (.string ⟨#[]⟩)), (.sl true .full 0 []), (.sl true .full 0 [])]⟩,
       ⟨none, none, .store 22 (.t 13) (.t 45)⟩])
     (.seq (.ops [⟨(some 46), none, .faddr 11 (.t 13)⟩,
       ⟨(some 47), none, .load none (.t 46)⟩,
       ⟨(some 48), none, .faddr 2 (.t 13)⟩,
       ⟨(some 49), none, .load (some 8) (.t 48)⟩,
       ⟨(some 50), none, .build [(.sc (.int .i64 (0))), (.sc (.int .i64 (0))), (.sc (.int .i64 (0))), (.sc (.int .i64 (0))), (.sc (.int .i64 (0))), (.sc (.int .i64 (0))), (.sc (.int .i64 (0))), (.sc (.int .i64 (0))), (.sc (.int .i64 (0))), (.sc (.int .i64 (0)))] [((1, 1), (.t 47)), ((2, 8), (.t 49))]⟩,
       ⟨(some 14), none, .alloc [(.sc (.int .i64 (0))), (.sc (.int .i64 (0))), (.sc (.int .i64 (0))), (.sc (.int .i64 (0))), (.sc (.int .i64 (0))), (.sc (.int .i64 (0))), (.sc (.int .i64 (0))), (.sc (.int .i64 (0))), (.sc (.int .i64 (0))), (.sc (.int .i64 (0)))]⟩,
       ⟨none, none, .store 10 (.t 14) (.t 50)⟩])
     (.seq (.seq (.ops [⟨(some 52), none, .load (some 22) (.t 13)⟩,
       ⟨(some 53), none, .move (.t 1)⟩,
       ⟨(some 54), none, .move (.t 10)⟩,
       ⟨(some 55), none, .call (.c (.fn (.func 127) [] [])) [(.t 52), (.t 53), (.t 54), (.c (.sc (.int .i64 (0))))]⟩,
       ⟨(some 51), none, .move (.t 55)⟩,
       ⟨(some 56), none, .extract 0 (.t 51)⟩,
       ⟨(some 57), none, .extract 1 (.t 51)⟩,
       ⟨(some 58), none, .faddr 0 (.t 14)⟩,
       ⟨none, none, .store 1 (.t 58) (.t 56)⟩,
       ⟨(some 8), none, .move (.t 57)⟩])
     (.seq (.ops [⟨(some 59), none, .move (.t 8)⟩,
       ⟨(some 60), none, .bin .neq (.t 59) (.c (.sc (.int .i64 (0))))⟩])
     (.cond (.t 60)
      (.seq (.ops [⟨(some 61), none, .move (.t 8)⟩,
        ⟨(some 4), none, .move (.c (.sl true .full 0 []))⟩,
        ⟨(some 5), none, .move (.t 61)⟩])
      (.ret))
      (.skip))))
     (.seq (.seq (.ops [⟨(some 62), none, .faddr 1 (.t 2)⟩,
       ⟨(some 63), none, .load none (.t 62)⟩])
     (.cond (.t 63)
      (.seq (.ops [⟨(some 65), none, .faddr 11 (.t 13)⟩,
        ⟨(some 66), none, .load none (.t 65)⟩,
        ⟨(some 67), none, .faddr 3 (.t 9)⟩,
        ⟨(some 68), none, .load (some 2) (.t 67)⟩,
        ⟨(some 69), none, .call (.c (.fn (.func 128) [] [])) [(.t 66), (.t 68)]⟩,
        ⟨(some 64), none, .move (.t 69)⟩,
        ⟨(some 70), none, .extract 0 (.t 64)⟩,
        ⟨(some 71), none, .extract 1 (.t 64)⟩,
        ⟨(some 72), none, .faddr 1 (.t 14)⟩,
        ⟨none, none, .store 1 (.t 72) (.t 70)⟩,
        ⟨(some 8), none, .move (.t 71)⟩])
      (.seq (.ops [⟨(some 73), none, .move (.t 8)⟩,
        ⟨(some 74), none, .bin .neq (.t 73) (.c (.sc (.int .i64 (0))))⟩])
      (.cond (.t 74)
       (.seq (.ops [⟨(some 75), none, .move (.t 8)⟩,
         ⟨(some 4), none, .move (.c (.sl true .full 0 []))⟩,
         ⟨(some 5), none, .move (.t 75)⟩])
       (.ret))
       (.skip))))
      (.skip)))
     (.seq (.ops [⟨(some 76), none, .move (.t 11)⟩,
       ⟨(some 77), none, .load (some 10) (.t 14)⟩,
       ⟨(some 78), none, .buildSl 10 [(.t 77)]⟩,
       ⟨(some 79), none, .append 10 80 (.t 76) (.t 78)⟩,
       ⟨(some 11), none, .move (.t 79)⟩])
     (.seq (.ops [⟨(some 80), none, .faddr 0 (.t 14)⟩,
       ⟨(some 81), none, .load none (.t 80)⟩,
       ⟨(some 10), none, .move (.t 81)⟩])
     (.seq (.ops [⟨(some 82), none, .faddr 21 (.t 13)⟩,
       ⟨(some 83), none, .load none (.t 82)⟩,
       ⟨(some 84), none, .move (.t 1)⟩,
       ⟨(some 85), none, .iaddrS 2 (.t 83) (.t 84)⟩,
       ⟨(some 86), none, .faddr 0 (.t 85)⟩,
       ⟨(some 87), none, .load none (.t 86)⟩,
       ⟨(some 15), none, .move (.t 87)⟩])
     (.seq (.ops [⟨(some 88), none, .move (.t 15)⟩,
       ⟨(some 89), none, .len (.t 88)⟩,
       ⟨(some 90), none, .bin .gtr (.t 89) (.c (.sc (.int .i64 (0))))⟩])
     (.cond (.t 90)
      (.ops [⟨(some 91), none, .move (.t 15)⟩,
        ⟨(some 92), none, .move (.t 15)⟩,
        ⟨(some 93), none, .len (.t 92)⟩,
        ⟨(some 94), none, .bin .sub (.t 93) (.c (.sc (.int .i64 (1))))⟩,
        ⟨(some 95), none, .iaddrS 2 (.t 91) (.t 94)⟩,
        ⟨(some 96), none, .faddr 1 (.t 95)⟩,
        ⟨(some 97), none, .load none (.t 96)⟩,
        ⟨(some 10), none, .move (.t 97)⟩])
      (.skip)))))))))))
    (.ops [⟨(some 98), none, .bin .add (.t 42) (.c (.sc (.int .i64 (1))))⟩,
      ⟨(some 42), none, .move (.t 98)⟩])))))))
  (.seq (.ops [⟨(some 99), none, .move (.t 11)⟩,
    ⟨(some 4), none, .move (.t 99)⟩,
    ⟨(some 5), none, .move (.c (.sc (.int .i64 (0))))⟩])
  (.ret))))))))),
  [.t 4, .t 5]⟩
theorem ok59 : EntryOk Tryz.prog 59 af59 := ⟨Tryz.f59, _, Tryz.func59, by decide, rfl, by kernel_rfl, by kernel_rfl, rfl⟩
/-- hemiola/ornament.Neighbours -/
noncomputable def af63 : AF := ⟨65, .seq (.ops [⟨(some 2), none, .box (.t 0)⟩,
    ⟨(some 4), none, .move (.c (.sc (.int .i64 (0))))⟩,
    ⟨(some 5), none, .move (.c (.sc (.int .i64 (0))))⟩,
    ⟨(some 6), none, .move (.c (.sc (.int .i64 (0))))⟩])
  (.seq (.ops [⟨(some 16), none, .load (some 3) (.t 2)⟩,
    ⟨(some 17), none, .call (.c (.fn (.func 134) [] [])) [(.t 16)]⟩,
    ⟨(some 15), none, .move (.t 17)⟩,
    ⟨(some 18), none, .extract 0 (.t 15)⟩,
    ⟨(some 19), none, .extract 1 (.t 15)⟩,
    ⟨(some 7), none, .move (.t 18)⟩,
    ⟨(some 6), none, .move (.t 19)⟩])
  (.seq (.seq (.ops [⟨(some 20), none, .move (.t 6)⟩,
    ⟨(some 21), none, .bin .neq (.t 20) (.c (.sc (.int .i64 (0))))⟩])
  (.cond (.t 21)
   (.seq (.ops [⟨(some 22), none, .move (.t 6)⟩,
     ⟨(some 4), none, .move (.c (.sc (.int .i64 (0))))⟩,
     ⟨(some 5), none, .move (.c (.sc (.int .i64 (0))))⟩,
     ⟨(some 6), none, .move (.t 22)⟩])
   (.ret))
   (.skip)))
  (.seq (.seq (.ops [⟨(some 23), none, .move (.t 1)⟩,
    ⟨(some 24), none, .call (.c (.fn (.func 135) [] [])) [(.t 23)]⟩,
    ⟨(some 8), none, .move (.t 24)⟩])
  (.seq (.ops [⟨(some 25), none, .move (.t 8)⟩,
    ⟨(some 26), none, .bin .neq (.t 25) (.c (.sc (.int .i64 (0))))⟩])
  (.cond (.t 26)
   (.seq (.ops [⟨(some 27), none, .move (.t 8)⟩,
     ⟨(some 4), none, .move (.c (.sc (.int .i64 (0))))⟩,
     ⟨(some 5), none, .move (.c (.sc (.int .i64 (0))))⟩,
     ⟨(some 6), none, .move (.t 27)⟩])
   (.ret))
   (.skip))))
  (.seq (.ops [⟨(some 29), none, .load (some 3) (.t 2)⟩,
    ⟨(some 30), none, .call (.c (.fn (.func 136) [] [])) [(.t 29)]⟩,
    ⟨(some 28), none, .move (.t 30)⟩,
    ⟨(some 31), none, .extract 0 (.t 28)⟩,
    ⟨(some 32), none, .extract 1 (.t 28)⟩,
    ⟨(some 9), none, .move (.t 31)⟩,
    ⟨(some 10), none, .move (.t 32)⟩])
  (.seq (.ops [⟨(some 34), none, .move (.t 1)⟩,
    ⟨(some 35), none, .faddr 0 (.t 2)⟩,
    ⟨(some 36), none, .load none (.t 35)⟩,
    ⟨(some 37), none, .bin .add (.t 36) (.c (.sc (.int .i64 (1))))⟩,
    ⟨(some 38), none, .bin .rem (.t 37) (.c (.sc (.int .i64 (7))))⟩,
    ⟨(some 39), none, .call (.c (.fn (.func 137) [] [])) [(.t 34), (.t 38)]⟩,
    ⟨(some 33), none, .move (.t 39)⟩,
    ⟨(some 40), none, .extract 0 (.t 33)⟩,
    ⟨(some 41), none, .extract 1 (.t 33)⟩,
    ⟨(some 11), none, .move (.t 40)⟩,
    ⟨(some 12), none, .move (.t 41)⟩])
  (.seq (.ops [⟨(some 43), none, .move (.t 1)⟩,
    ⟨(some 44), none, .faddr 0 (.t 2)⟩,
    ⟨(some 45), none, .load none (.t 44)⟩,
    ⟨(some 46), none, .bin .add (.t 45) (.c (.sc (.int .i64 (6))))⟩,
    ⟨(some 47), none, .bin .rem (.t 46) (.c (.sc (.int .i64 (7))))⟩,
    ⟨(some 48), none, .call (.c (.fn (.func 137) [] [])) [(.t 43), (.t 47)]⟩,
    ⟨(some 42), none, .move (.t 48)⟩,
    ⟨(some 49), none, .extract 0 (.t 42)⟩,
    ⟨(some 50), none, .extract 1 (.t 42)⟩,
    ⟨(some 13), none, .move (.t 49)⟩,
    ⟨(some 14), none, .move (.t 50)⟩])
  (.seq (.ops [⟨(some 51), none, .move (.t 9)⟩,
    ⟨(some 52), none, .bin .add (.t 51) (.c (.sc (.int .i64 (1))))⟩,
    ⟨(some 53), none, .move (.t 11)⟩,
    ⟨(some 54), none, .call (.c (.fn (.func 138) [] [])) [(.t 52), (.t 53)]⟩,
    ⟨(some 55), none, .move (.t 7)⟩,
    ⟨(some 56), none, .bin .sub (.t 54) (.t 55)⟩,
    ⟨(some 57), none, .mm true [(.c (.sc (.int .i64 (1)))), (.t 56)]⟩,
    ⟨(some 58), none, .move (.t 9)⟩,
    ⟨(some 59), none, .bin .sub (.t 58) (.c (.sc (.int .i64 (1))))⟩,
    ⟨(some 60), none, .move (.t 13)⟩,
    ⟨(some 61), none, .call (.c (.fn (.func 138) [] [])) [(.t 59), (.t 60)]⟩,
    ⟨(some 62), none, .move (.t 7)⟩,
    ⟨(some 63), none, .bin .sub (.t 61) (.t 62)⟩,
    ⟨(some 64), none, .mm false [(.c (.sc (.int .i64 (-1)))), (.t 63)]⟩,
    ⟨(some 4), none, .move (.t 57)⟩,
    ⟨(some 5), none, .move (.t 64)⟩,
    ⟨(some 6), none, .move (.c (.sc (.int .i64 (0))))⟩])
  (.ret)))))))),
  [.t 4, .t 5, .t 6]⟩
theorem ok63 : EntryOk Tryz.prog 63 af63 := ⟨Tryz.f63, _, Tryz.func63, by decide, rfl, by kernel_rfl, by kernel_rfl, rfl⟩
/-- slices.Clone[[]hemiola/api.Played,hemiola/api.Played] -/
noncomputable def af67 : AF := ⟨8, .seq (.ops [⟨(some 2), none, .move (.c (.sl true .full 0 []))⟩])
  (.seq (.seq (.ops [⟨(some 3), none, .move (.t 0)⟩,
    ⟨(some 4), none, .eqN .sl false (.t 3) (.c (.sl true .full 0 []))⟩])
  (.cond (.t 4)
   (.seq (.ops [⟨(some 2), none, .move (.c (.sl true .full 0 []))⟩])
   (.ret))
   (.skip)))
  (.seq (.ops [⟨(some 5), none, .buildSl 7 []⟩,
    ⟨(some 6), none, .move (.t 0)⟩,
    ⟨(some 7), none, .append 7 56 (.t 5) (.t 6)⟩,
    ⟨(some 2), none, .move (.t 7)⟩])
  (.ret))),
  [.t 2]⟩
theorem ok67 : EntryOk Tryz.prog 67 af67 := ⟨Tryz.f67, _, Tryz.func67, by decide, rfl, by kernel_rfl, by kernel_rfl, rfl⟩
/-- slices.SortStableFunc[[]hemiola/perform.hairpin,hemiola/perform.hairpin] -/
noncomputable def af75 : AF := ⟨9, .ops [⟨(some 4), none, .move (.t 0)⟩,
    ⟨(some 5), none, .move (.t 0)⟩,
    ⟨(some 6), none, .len (.t 5)⟩,
    ⟨(some 7), none, .move (.t 1)⟩,
    ⟨(some 8), none, .call (.c (.fn (.func 146) [] [])) [(.t 4), (.t 6), (.t 7)]⟩],
  []⟩
theorem ok75 : EntryOk Tryz.prog 75 af75 := ⟨Tryz.f75, _, Tryz.func75, by decide, rfl, by kernel_rfl, by kernel_rfl, rfl⟩
/-- (*hemiola/check.checker).limits -/
noncomputable def af92 : AF := ⟨159, .seq (.seq (.ops [⟨(some 11), none, .move (.t 0)⟩,
    ⟨(some 12), none, .nilCheck (.t 11)⟩,
    ⟨(some 13), none, .faddr 0 (.t 12)⟩,
    ⟨(some 14), none, .faddr 2 (.t 13)⟩,
    ⟨(some 15), none, .load none (.t 14)⟩,
    ⟨(some 16), none, .len (.t 15)⟩,
    ⟨(some 17), none, .move (.c (.sc (.int .i64 (0))))⟩])
  (.block 0 (.loop (.seq (.ops [⟨(some 18), none, .bin .lss (.t 17) (.t 16)⟩])
    (.seq (.cond (.t 18)
     (.skip)
     (.exit 0))
    (.seq (.block 1 (.seq (.ops [⟨(some 19), none, .iaddrS 6 (.t 15) (.t 17)⟩,
       ⟨(some 20), none, .load (some 6) (.t 19)⟩,
       ⟨(some 3), none, .alloc [(.sc (.int .i64 (0))), (.sc (.int .i64 (0))), (.sc (.string ⟨#[]⟩)), (.sc (.int .i64 (0))), (.sc (.int .i64 (0))), (.sl true .full 0 [])]⟩,
       ⟨none, none, .store 6 (.t 3) (.t 20)⟩])
     (.draw [⟨false, [0], [], ⟨(some 21), none, .move (.t 0)⟩⟩,
       ⟨false, [3], [], ⟨(some 22), none, .faddr 2 (.t 3)⟩⟩,
       ⟨false, [22], [], ⟨(some 23), none, .load none (.t 22)⟩⟩,
       ⟨true, [23], [], ⟨(some 24), none, .call (.c (.fn (.func 165) [] [])) [(.t 23)]⟩⟩,
       ⟨false, [24], [], ⟨(some 25), none, .un .not (.t 24)⟩⟩,
       ⟨false, [25], [], ⟨(some 26), none, .move (.t 25)⟩⟩,
       ⟨false, [3, 26], [], ⟨(some 27), (some (26, false)), .faddr 5 (.t 3)⟩⟩,
       ⟨false, [27, 26], [], ⟨(some 28), (some (26, false)), .load none (.t 27)⟩⟩,
       ⟨false, [28, 26], [], ⟨(some 29), (some (26, false)), .len (.t 28)⟩⟩,
       ⟨true, [29, 26], [], ⟨(some 30), (some (26, false)), .call (.c (.fn (.func 166) [] [])) [(.t 29), (.c (.sc (.int .i64 (1)))), (.c (.sc (.int .i64 (4))))]⟩⟩,
       ⟨false, [30, 26], [], ⟨(some 31), (some (26, false)), .un .not (.t 30)⟩⟩,
       ⟨false, [26, 31], [], ⟨(some 32), none, .pick (.t 26) (.c (.sc (.bool true))) (.t 31)⟩⟩,
       ⟨false, [32], [], ⟨(some 33), none, .move (.t 32)⟩⟩,
       ⟨false, [3, 33], [], ⟨(some 34), (some (33, false)), .faddr 3 (.t 3)⟩⟩,
       ⟨false, [34, 33], [], ⟨(some 35), (some (33, false)), .load (some 2) (.t 34)⟩⟩,
       ⟨true, [35, 33], [], ⟨(some 36), (some (33, false)), .call (.c (.fn (.func 167) [] [])) [(.t 35)]⟩⟩,
       ⟨false, [36, 33], [], ⟨(some 37), (some (33, false)), .bin .neq (.t 36) (.c (.sc (.int .i64 (0))))⟩⟩,
       ⟨false, [33, 37], [], ⟨(some 38), none, .pick (.t 33) (.c (.sc (.bool true))) (.t 37)⟩⟩,
       ⟨false, [3], [], ⟨(some 39), none, .faddr 0 (.t 3)⟩⟩,
       ⟨false, [39], [3, 9, 15], ⟨(some 40), none, .load (some 2) (.t 39)⟩⟩]
       [⟨(some 41), none, .call (.c (.fn (.func 164) [] [])) [(.t 21), (.t 38), (.t 40)]⟩])))
    (.ops [⟨(some 42), none, .bin .add (.t 17) (.c (.sc (.int .i64 (1))))⟩,
      ⟨(some 17), none, .move (.t 42)⟩])))))))
  (.seq (.seq (.ops [⟨(some 43), none, .move (.t 0)⟩,
    ⟨(some 44), none, .nilCheck (.t 43)⟩,
    ⟨(some 45), none, .faddr 0 (.t 44)⟩,
    ⟨(some 46), none, .faddr 3 (.t 45)⟩,
    ⟨(some 47), none, .load none (.t 46)⟩,
    ⟨(some 48), none, .len (.t 47)⟩,
    ⟨(some 49), none, .move (.c (.sc (.int .i64 (0))))⟩])
  (.block 2 (.loop (.seq (.ops [⟨(some 50), none, .bin .lss (.t 49) (.t 48)⟩])
    (.seq (.cond (.t 50)
     (.skip)
     (.exit 2))
    (.seq (.block 3 (.seq (.ops [⟨(some 51), none, .iaddrS 22 (.t 47) (.t 49)⟩,
       ⟨(some 52), none, .load (some 22) (.t 51)⟩,
       ⟨(some 5), none, .alloc [(.sc (.int .i64 (0))), (.sc (.int .i64 (0))), (.sc (.int .i64 (0))), (.sc (.int .i64 (0))), (.sc (.int .i64 (0))), (.sc (.int .i64 (0))), (.sc (.int .i64 (0))), (.sc (.int .i64 (0))), (.sc (.int .i64 (0))), (.sc (.int .i64 (0))), (.sc (.int .i64 (0))), (.sc (.int .i64 (0))), (.sc (.bool false)), (.sc (.int .i64 (0))), (.sc (.int .i64 (0))), (.sc (.int .i64 (0))), (.sc (.int .i64 (0))), (.sc (.int .i64 (0))), (.sc (.int .i64 (0))), (.sc (.string ⟨#[]⟩)), (.sl true .full 0 []), (.sl true .full 0 [])]⟩,
       ⟨none, none, .store 22 (.t 5) (.t 52)⟩])
     (.seq (.ops [⟨(some 53), none, .faddr 19 (.t 5)⟩,
       ⟨(some 54), none, .load none (.t 53)⟩,
       ⟨(some 55), none, .call (.c (.fn (.func 165) [] [])) [(.t 54)]⟩,
       ⟨(some 56), none, .un .not (.t 55)⟩,
       ⟨(some 57), none, .move (.t 56)⟩,
       ⟨(some 58), (some (57, false)), .faddr 20 (.t 5)⟩,
       ⟨(some 59), (some (57, false)), .load none (.t 58)⟩,
       ⟨(some 60), (some (57, false)), .len (.t 59)⟩,
       ⟨(some 61), (some (57, false)), .bin .gtr (.t 60) (.c (.sc (.int .i64 (64))))⟩,
       ⟨(some 62), none, .pick (.t 57) (.c (.sc (.bool true))) (.t 61)⟩,
       ⟨(some 6), none, .move (.t 62)⟩])
     (.seq (.seq (.ops [⟨(some 63), none, .faddr 21 (.t 5)⟩,
       ⟨(some 64), none, .load none (.t 63)⟩,
       ⟨(some 65), none, .len (.t 64)⟩,
       ⟨(some 66), none, .move (.c (.sc (.int .i64 (0))))⟩])
     (.block 4 (.loop (.seq (.ops [⟨(some 67), none, .bin .lss (.t 66) (.t 65)⟩])
       (.seq (.cond (.t 67)
        (.skip)
        (.exit 4))
       (.seq (.block 5 (.seq (.ops [⟨(some 68), none, .iaddrS 2 (.t 64) (.t 66)⟩,
          ⟨(some 69), none, .load (some 2) (.t 68)⟩,
          ⟨(some 8), none, .alloc [(.sl true .full 0 []), (.sl true .full 0 [])]⟩,
          ⟨none, none, .store 2 (.t 8) (.t 69)⟩])
        (.seq (.ops [⟨(some 70), none, .move (.t 6)⟩,
          ⟨(some 71), none, .move (.t 70)⟩,
          ⟨(some 72), (some (71, false)), .faddr 0 (.t 8)⟩,
          ⟨(some 73), (some (71, false)), .load none (.t 72)⟩,
          ⟨(some 74), (some (71, false)), .len (.t 73)⟩,
          ⟨(some 75), (some (71, false)), .bin .gtr (.t 74) (.c (.sc (.int .i64 (64))))⟩,
          ⟨(some 76), none, .pick (.t 71) (.c (.sc (.bool true))) (.t 75)⟩,
          ⟨(some 77), none, .move (.t 76)⟩,
          ⟨(some 78), (some (77, false)), .faddr 1 (.t 8)⟩,
          ⟨(some 79), (some (77, false)), .load none (.t 78)⟩,
          ⟨(some 80), (some (77, false)), .len (.t 79)⟩,
          ⟨(some 81), (some (77, false)), .bin .gtr (.t 80) (.c (.sc (.int .i64 (2))))⟩,
          ⟨(some 82), none, .pick (.t 77) (.c (.sc (.bool true))) (.t 81)⟩,
          ⟨(some 6), none, .move (.t 82)⟩])
        (.seq (.ops [⟨(some 83), none, .faddr 1 (.t 8)⟩,
          ⟨(some 84), none, .load none (.t 83)⟩,
          ⟨(some 85), none, .len (.t 84)⟩,
          ⟨(some 86), none, .move (.c (.sc (.int .i64 (0))))⟩])
        (.block 6 (.loop (.seq (.ops [⟨(some 87), none, .bin .lss (.t 86) (.t 85)⟩])
          (.seq (.cond (.t 87)
           (.skip)
           (.exit 6))
          (.seq (.block 7 (.seq (.ops [⟨(some 88), none, .iaddrS 2 (.t 84) (.t 86)⟩,
             ⟨(some 89), none, .load (some 2) (.t 88)⟩,
             ⟨(some 10), none, .alloc [(.sl true .full 0 []), (.sl true .full 0 [])]⟩,
             ⟨none, none, .store 2 (.t 10) (.t 89)⟩])
           (.ops [⟨(some 90), none, .move (.t 6)⟩,
             ⟨(some 91), none, .move (.t 90)⟩,
             ⟨(some 92), (some (91, false)), .faddr 0 (.t 10)⟩,
             ⟨(some 93), (some (91, false)), .load none (.t 92)⟩,
             ⟨(some 94), (some (91, false)), .len (.t 93)⟩,
             ⟨(some 95), (some (91, false)), .bin .gtr (.t 94) (.c (.sc (.int .i64 (128))))⟩,
             ⟨(some 96), none, .pick (.t 91) (.c (.sc (.bool true))) (.t 95)⟩,
             ⟨(some 97), none, .move (.t 96)⟩,
             ⟨(some 98), (some (97, false)), .faddr 1 (.t 10)⟩,
             ⟨(some 99), (some (97, false)), .load none (.t 98)⟩,
             ⟨(some 100), (some (97, false)), .len (.t 99)⟩,
             ⟨(some 101), (some (97, false)), .bin .gtr (.t 100) (.c (.sc (.int .i64 (16))))⟩,
             ⟨(some 102), none, .pick (.t 97) (.c (.sc (.bool true))) (.t 101)⟩,
             ⟨(some 6), none, .move (.t 102)⟩])))
          (.ops [⟨(some 103), none, .bin .add (.t 86) (.c (.sc (.int .i64 (1))))⟩,
            ⟨(some 86), none, .move (.t 103)⟩]))))))))))
       (.ops [⟨(some 104), none, .bin .add (.t 66) (.c (.sc (.int .i64 (1))))⟩,
         ⟨(some 66), none, .move (.t 104)⟩])))))))
     (.ops [⟨(some 105), none, .move (.t 0)⟩,
       ⟨(some 106), none, .move (.t 6)⟩,
       ⟨(some 107), none, .faddr 0 (.t 5)⟩,
       ⟨(some 108), none, .load (some 2) (.t 107)⟩,
       ⟨(some 109), none, .call (.c (.fn (.func 164) [] [])) [(.t 105), (.t 106), (.t 108)]⟩])))))
    (.ops [⟨(some 110), none, .bin .add (.t 49) (.c (.sc (.int .i64 (1))))⟩,
      ⟨(some 49), none, .move (.t 110)⟩])))))))
  (.ops [⟨(some 111), none, .move (.t 0)⟩,
    ⟨(some 112), none, .move (.t 0)⟩,
    ⟨(some 113), none, .nilCheck (.t 112)⟩,
    ⟨(some 114), none, .faddr 0 (.t 113)⟩,
    ⟨(some 115), none, .faddr 0 (.t 114)⟩,
    ⟨(some 116), none, .load none (.t 115)⟩,
    ⟨(some 117), none, .call (.c (.fn (.func 165) [] [])) [(.t 116)]⟩,
    ⟨(some 118), none, .un .not (.t 117)⟩,
    ⟨(some 119), none, .move (.t 118)⟩,
    ⟨(some 120), (some (119, false)), .move (.t 0)⟩,
    ⟨(some 121), (some (119, false)), .nilCheck (.t 120)⟩,
    ⟨(some 122), (some (119, false)), .faddr 0 (.t 121)⟩,
    ⟨(some 123), (some (119, false)), .faddr 2 (.t 122)⟩,
    ⟨(some 124), (some (119, false)), .load none (.t 123)⟩,
    ⟨(some 125), (some (119, false)), .len (.t 124)⟩,
    ⟨(some 126), (some (119, false)), .call (.c (.fn (.func 166) [] [])) [(.t 125), (.c (.sc (.int .i64 (1)))), (.c (.sc (.int .i64 (32))))]⟩,
    ⟨(some 127), (some (119, false)), .un .not (.t 126)⟩,
    ⟨(some 128), none, .pick (.t 119) (.c (.sc (.bool true))) (.t 127)⟩,
    ⟨(some 129), none, .move (.t 128)⟩,
    ⟨(some 130), (some (129, false)), .move (.t 0)⟩,
    ⟨(some 131), (some (129, false)), .nilCheck (.t 130)⟩,
    ⟨(some 132), (some (129, false)), .faddr 0 (.t 131)⟩,
    ⟨(some 133), (some (129, false)), .faddr 3 (.t 132)⟩,
    ⟨(some 134), (some (129, false)), .load none (.t 133)⟩,
    ⟨(some 135), (some (129, false)), .len (.t 134)⟩,
    ⟨(some 136), (some (129, false)), .call (.c (.fn (.func 166) [] [])) [(.t 135), (.c (.sc (.int .i64 (1)))), (.c (.sc (.int .i64 (1024))))]⟩,
    ⟨(some 137), (some (129, false)), .un .not (.t 136)⟩,
    ⟨(some 138), none, .pick (.t 129) (.c (.sc (.bool true))) (.t 137)⟩,
    ⟨(some 139), none, .move (.t 138)⟩,
    ⟨(some 140), (some (139, false)), .move (.t 0)⟩,
    ⟨(some 141), (some (139, false)), .nilCheck (.t 140)⟩,
    ⟨(some 142), (some (139, false)), .faddr 0 (.t 141)⟩,
    ⟨(some 143), (some (139, false)), .faddr 4 (.t 142)⟩,
    ⟨(some 144), (some (139, false)), .load none (.t 143)⟩,
    ⟨(some 145), (some (139, false)), .len (.t 144)⟩,
    ⟨(some 146), (some (139, false)), .bin .gtr (.t 145) (.c (.sc (.int .i64 (4096))))⟩,
    ⟨(some 147), none, .pick (.t 139) (.c (.sc (.bool true))) (.t 146)⟩,
    ⟨(some 148), none, .move (.t 147)⟩,
    ⟨(some 149), (some (148, false)), .move (.t 0)⟩,
    ⟨(some 150), (some (148, false)), .nilCheck (.t 149)⟩,
    ⟨(some 151), (some (148, false)), .faddr 0 (.t 150)⟩,
    ⟨(some 152), (some (148, false)), .faddr 5 (.t 151)⟩,
    ⟨(some 153), (some (148, false)), .load none (.t 152)⟩,
    ⟨(some 154), (some (148, false)), .len (.t 153)⟩,
    ⟨(some 155), (some (148, false)), .bin .gtr (.t 154) (.c (.sc (.int .i64 (100))))⟩,
    ⟨(some 156), none, .pick (.t 148) (.c (.sc (.bool true))) (.t 155)⟩,
    ⟨(some 157), none, .build [(.sc (.int .i64 (0))), (.sc (.int .i64 (0)))] []⟩,
    ⟨(some 158), none, .call (.c (.fn (.func 164) [] [])) [(.t 111), (.t 156), (.t 157)]⟩])),
  []⟩
theorem ok92 : EntryOk Tryz.prog 92 af92 := ⟨Tryz.f92, _, Tryz.func92, by decide, rfl, by kernel_rfl, by kernel_rfl, rfl⟩
/-- (*hemiola/check.checker).metres -/
noncomputable def af96 : AF := ⟨5, .seq (.ops [⟨(some 1), none, .box (.t 0)⟩])
  (.ops [⟨(some 2), none, .load none (.t 1)⟩,
    ⟨(some 3), none, .mkFn (.func 175) [] [(.t 1)]⟩,
    ⟨(some 4), none, .call (.c (.fn (.func 171) [] [])) [(.t 2), (.t 3)]⟩]),
  []⟩
theorem ok96 : EntryOk Tryz.prog 96 af96 := ⟨Tryz.f96, _, Tryz.func96, by decide, rfl, by kernel_rfl, by kernel_rfl, rfl⟩
/-- (*hemiola/check.checker).pitches -/
noncomputable def af100 : AF := ⟨5, .seq (.ops [⟨(some 1), none, .box (.t 0)⟩])
  (.ops [⟨(some 2), none, .load none (.t 1)⟩,
    ⟨(some 3), none, .mkFn (.func 182) [] [(.t 1)]⟩,
    ⟨(some 4), none, .call (.c (.fn (.func 179) [] [])) [(.t 2), (.t 3)]⟩]),
  []⟩
theorem ok100 : EntryOk Tryz.prog 100 af100 := ⟨Tryz.f100, _, Tryz.func100, by decide, rfl, by kernel_rfl, by kernel_rfl, rfl⟩
/-- (*hemiola/check.checker).nesting -/
noncomputable def af104 : AF := ⟨62, .seq (.ops [⟨(some 9), none, .move (.t 0)⟩,
    ⟨(some 10), none, .call (.c (.fn (.func 195) [] [])) [(.t 9)]⟩,
    ⟨(some 8), none, .move (.t 10)⟩,
    ⟨(some 11), none, .extract 0 (.t 8)⟩,
    ⟨(some 12), none, .extract 1 (.t 8)⟩,
    ⟨(some 2), none, .move (.t 11)⟩,
    ⟨(some 3), none, .move (.t 12)⟩])
  (.seq (.ops [⟨(some 13), none, .move (.t 0)⟩,
    ⟨(some 14), none, .nilCheck (.t 13)⟩,
    ⟨(some 15), none, .faddr 0 (.t 14)⟩,
    ⟨(some 16), none, .faddr 4 (.t 15)⟩,
    ⟨(some 17), none, .load none (.t 16)⟩,
    ⟨(some 18), none, .len (.t 17)⟩,
    ⟨(some 19), none, .move (.c (.sc (.int .i64 (0))))⟩])
  (.block 0 (.loop (.seq (.ops [⟨(some 20), none, .bin .lss (.t 19) (.t 18)⟩])
    (.seq (.cond (.t 20)
     (.skip)
     (.exit 0))
    (.seq (.block 1 (.seq (.ops [⟨(some 21), none, .move (.t 19)⟩,
       ⟨(some 22), none, .iaddrS 7 (.t 17) (.t 19)⟩,
       ⟨(some 23), none, .load (some 7) (.t 22)⟩,
       ⟨(some 5), none, .alloc [(.sc (.int .i64 (0))), (.sc (.int .i64 (0))), (.sc (.int .i64 (0))), (.sc (.int .i64 (0))), (.sc (.int .i64 (0))), (.sc (.int .i64 (0))), (.sc (.int .i64 (0)))]⟩,
       ⟨(some 4), none, .move (.t 21)⟩,
       ⟨none, none, .store 7 (.t 5) (.t 23)⟩])
     (.seq (.ops [⟨(some 6), none, .move (.c (.sc (.bool false)))⟩])
     (.seq (.seq (.ops [⟨(some 7), none, .move (.c (.sc (.int .i64 (0))))⟩])
     (.block 2 (.loop (.seq (.seq (.ops [⟨(some 24), none, .move (.t 7)⟩,
         ⟨(some 25), none, .move (.t 4)⟩,
         ⟨(some 26), none, .bin .lss (.t 24) (.t 25)⟩,
         ⟨(some 27), none, .move (.t 26)⟩,
         ⟨(some 28), (some (27, true)), .move (.t 3)⟩,
         ⟨(some 29), (some (27, true)), .move (.t 4)⟩,
         ⟨(some 30), (some (27, true)), .iaddrS 1 (.t 28) (.t 29)⟩,
         ⟨(some 31), (some (27, true)), .load none (.t 30)⟩,
         ⟨(some 32), (some (27, true)), .un .not (.t 31)⟩,
         ⟨(some 33), none, .pick (.t 27) (.t 32) (.c (.sc (.bool false)))⟩,
         ⟨(some 34), none, .move (.t 33)⟩,
         ⟨(some 35), (some (34, true)), .move (.t 6)⟩,
         ⟨(some 36), (some (34, true)), .un .not (.t 35)⟩,
         ⟨(some 37), none, .pick (.t 34) (.t 36) (.c (.sc (.bool false)))⟩])
       (.cond (.t 37)
        (.skip)
        (.exit 2)))
       (.seq (.block 3 (.draw [⟨true, [3], [], ⟨(some 40), none, .move (.t 3)⟩⟩,
          ⟨true, [7], [], ⟨(some 41), none, .move (.t 7)⟩⟩,
          ⟨true, [40, 41], [], ⟨(some 42), none, .iaddrS 1 (.t 40) (.t 41)⟩⟩,
          ⟨true, [42], [], ⟨(some 43), none, .load none (.t 42)⟩⟩,
          ⟨true, [43], [], ⟨(some 44), none, .un .not (.t 43)⟩⟩,
          ⟨true, [44], [], ⟨(some 45), none, .move (.t 44)⟩⟩,
          ⟨false, [2, 45], [], ⟨(some 46), (some (45, true)), .move (.t 2)⟩⟩,
          ⟨false, [7, 45], [], ⟨(some 47), (some (45, true)), .move (.t 7)⟩⟩,
          ⟨false, [46, 47, 45], [], ⟨(some 48), (some (45, true)), .iaddrS 9 (.t 46) (.t 47)⟩⟩,
          ⟨false, [48, 45], [], ⟨(some 49), (some (45, true)), .load (some 9) (.t 48)⟩⟩,
          ⟨false, [2, 45], [], ⟨(some 50), (some (45, true)), .move (.t 2)⟩⟩,
          ⟨false, [4, 45], [], ⟨(some 51), (some (45, true)), .move (.t 4)⟩⟩,
          ⟨false, [50, 51, 45], [], ⟨(some 52), (some (45, true)), .iaddrS 9 (.t 50) (.t 51)⟩⟩,
          ⟨false, [52, 45], [], ⟨(some 53), (some (45, true)), .load (some 9) (.t 52)⟩⟩]
          [⟨(some 54), (some (45, true)), .call (.c (.fn (.func 196) [] [])) [(.t 49), (.t 53)]⟩,
          ⟨(some 55), none, .pick (.t 45) (.t 54) (.c (.sc (.bool false)))⟩,
          ⟨(some 6), none, .move (.t 55)⟩]))
       (.ops [⟨(some 38), none, .move (.t 7)⟩,
         ⟨(some 39), none, .bin .add (.t 38) (.c (.sc (.int .i64 (1))))⟩,
         ⟨(some 7), none, .move (.t 39)⟩]))))))
     (.ops [⟨(some 56), none, .move (.t 0)⟩,
       ⟨(some 57), none, .move (.t 6)⟩,
       ⟨(some 58), none, .faddr 0 (.t 5)⟩,
       ⟨(some 59), none, .load (some 2) (.t 58)⟩,
       ⟨(some 60), none, .call (.c (.fn (.func 164) [] [])) [(.t 56), (.t 57), (.t 59)]⟩])))))
    (.ops [⟨(some 61), none, .bin .add (.t 19) (.c (.sc (.int .i64 (1))))⟩,
      ⟨(some 19), none, .move (.t 61)⟩]))))))),
  []⟩
theorem ok104 : EntryOk Tryz.prog 104 af104 := ⟨Tryz.f104, _, Tryz.func104, by decide, rfl, by kernel_rfl, by kernel_rfl, rfl⟩
/-- (*hemiola/check.checker).margins -/
noncomputable def af108 : AF := ⟨5, .seq (.ops [⟨(some 1), none, .box (.t 0)⟩])
  (.ops [⟨(some 2), none, .load none (.t 1)⟩,
    ⟨(some 3), none, .mkFn (.func 205) [] [(.t 1)]⟩,
    ⟨(some 4), none, .call (.c (.fn (.func 179) [] [])) [(.t 2), (.t 3)]⟩]),
  []⟩
theorem ok108 : EntryOk Tryz.prog 108 af108 := ⟨Tryz.f108, _, Tryz.func108, by decide, rfl, by kernel_rfl, by kernel_rfl, rfl⟩
/-- hemiola/timeline.starts -/
noncomputable def af113 : AF := ⟨33, .seq (.ops [⟨(some 1), none, .box (.t 0)⟩,
    ⟨(some 2), none, .move (.c (.sl true .full 0 []))⟩])
  (.seq (.ops [⟨(some 8), none, .buildSl 1 [(.c (.sc (.int .i64 (0))))]⟩,
    ⟨(some 3), none, .move (.t 8)⟩])
  (.seq (.seq (.ops [⟨(some 9), none, .faddr 3 (.t 1)⟩,
    ⟨(some 10), none, .load none (.t 9)⟩,
    ⟨(some 11), none, .len (.t 10)⟩,
    ⟨(some 12), none, .move (.c (.sc (.int .i64 (0))))⟩])
  (.block 0 (.loop (.seq (.ops [⟨(some 13), none, .bin .lss (.t 12) (.t 11)⟩])
    (.seq (.cond (.t 13)
     (.skip)
     (.exit 0))
    (.seq (.block 1 (.seq (.ops [⟨(some 14), none, .move (.t 12)⟩,
       ⟨(some 15), none, .iaddrS 22 (.t 10) (.t 12)⟩,
       ⟨(some 16), none, .load (some 22) (.t 15)⟩,
       ⟨(some 5), none, .alloc [(.sc (.int .i64 (0))), (.sc (.int .i64 (0))), (.sc (.int .i64 (0))), (.sc (.int .i64 (0))), (.sc (.int .i64 (0))), (.sc (.int .i64 (0))), (.sc (.int .i64 (0))), (.sc (.int .i64 (0))), (.sc (.int .i64 (0))), (.sc (.int .i64 (0))), (.sc (.int .i64 (0))), (.sc (.int .i64 (0))), (.sc (.bool false)), (.sc (.int .i64 (0))), (.sc (.int .i64 (0))), (.sc (.int .i64 (0))), (.sc (.int .i64 (0))), (.sc (.int .i64 (0))), (.sc (.int .i64 (0))), (.sc (.string ⟨#[]⟩)), (.sl true .full 0 []), (.sl true .full 0 [])]⟩,
       ⟨(some 4), none, .move (.t 14)⟩,
       ⟨none, none, .store 22 (.t 5) (.t 16)⟩])
     (.seq (.ops [⟨(some 18), none, .load (some 22) (.t 5)⟩,
       ⟨(some 19), none, .call (.c (.fn (.func 55) [] [])) [(.t 18)]⟩,
       ⟨(some 17), none, .move (.t 19)⟩,
       ⟨(some 20), none, .extract 0 (.t 17)⟩,
       ⟨(some 21), none, .extract 1 (.t 17)⟩,
       ⟨(some 6), none, .move (.t 20)⟩,
       ⟨(some 7), none, .move (.t 21)⟩])
     (.ops [⟨(some 22), none, .move (.t 3)⟩,
       ⟨(some 23), none, .move (.t 3)⟩,
       ⟨(some 24), none, .move (.t 4)⟩,
       ⟨(some 25), none, .iaddrS 1 (.t 23) (.t 24)⟩,
       ⟨(some 26), none, .load none (.t 25)⟩,
       ⟨(some 27), none, .move (.t 6)⟩,
       ⟨(some 28), none, .bin .add (.t 26) (.t 27)⟩,
       ⟨(some 29), none, .buildSl 1 [(.t 28)]⟩,
       ⟨(some 30), none, .append 1 8 (.t 22) (.t 29)⟩,
       ⟨(some 3), none, .move (.t 30)⟩]))))
    (.ops [⟨(some 31), none, .bin .add (.t 12) (.c (.sc (.int .i64 (1))))⟩,
      ⟨(some 12), none, .move (.t 31)⟩])))))))
  (.seq (.ops [⟨(some 32), none, .move (.t 3)⟩,
    ⟨(some 2), none, .move (.t 32)⟩])
  (.ret)))),
  [.t 2]⟩
theorem ok113 : EntryOk Tryz.prog 113 af113 := ⟨Tryz.f113, _, Tryz.func113, by decide, rfl, by kernel_rfl, by kernel_rfl, rfl⟩
/-- slices.SortedStableFunc[hemiola/api.Note] -/
noncomputable def af117 : AF := ⟨12, .seq (.ops [⟨(some 4), none, .move (.c (.sl true .full 0 []))⟩])
  (.seq (.ops [⟨(some 6), none, .move (.t 0)⟩,
    ⟨(some 7), none, .call (.c (.fn (.func 213) [] [])) [(.t 6)]⟩,
    ⟨(some 5), none, .move (.t 7)⟩])
  (.seq (.ops [⟨(some 8), none, .move (.t 5)⟩,
    ⟨(some 9), none, .move (.t 1)⟩,
    ⟨(some 10), none, .call (.c (.fn (.func 214) [] [])) [(.t 8), (.t 9)]⟩])
  (.seq (.ops [⟨(some 11), none, .move (.t 5)⟩,
    ⟨(some 4), none, .move (.t 11)⟩])
  (.ret)))),
  [.t 4]⟩
theorem ok117 : EntryOk Tryz.prog 117 af117 := ⟨Tryz.f117, _, Tryz.func117, by decide, rfl, by kernel_rfl, by kernel_rfl, rfl⟩
/-- slices.Clone[[]hemiola/tempo.Stretch,hemiola/tempo.Stretch] -/
noncomputable def af122 : AF := ⟨8, .seq (.ops [⟨(some 2), none, .move (.c (.sl true .full 0 []))⟩])
  (.seq (.seq (.ops [⟨(some 3), none, .move (.t 0)⟩,
    ⟨(some 4), none, .eqN .sl false (.t 3) (.c (.sl true .full 0 []))⟩])
  (.cond (.t 4)
   (.seq (.ops [⟨(some 2), none, .move (.c (.sl true .full 0 []))⟩])
   (.ret))
   (.skip)))
  (.seq (.ops [⟨(some 5), none, .buildSl 5 []⟩,
    ⟨(some 6), none, .move (.t 0)⟩,
    ⟨(some 7), none, .appendM 5 40 (.t 5) (.t 6)⟩,
    ⟨(some 2), none, .move (.t 7)⟩])
  (.ret))),
  [.t 2]⟩
theorem ok122 : EntryOk Tryz.prog 122 af122 := ⟨Tryz.f122, _, Tryz.func122, by decide, rfl, by kernel_rfl, by kernel_rfl, rfl⟩
/-- hemiola/voice.onsets -/
noncomputable def af126 : AF := ⟨29, .seq (.ops [⟨(some 2), none, .move (.c (.sl true .full 0 []))⟩])
  (.seq (.ops [⟨(some 5), none, .move (.t 0)⟩,
    ⟨(some 6), none, .len (.t 5)⟩,
    ⟨(some 7), none, .mkSl 1 8 [(.sc (.int .i64 (0)))] (.t 6) (.t 6)⟩,
    ⟨(some 3), none, .move (.t 7)⟩])
  (.seq (.seq (.ops [⟨(some 4), none, .move (.c (.sc (.int .i64 (1))))⟩])
  (.block 0 (.loop (.seq (.seq (.ops [⟨(some 8), none, .move (.t 4)⟩,
      ⟨(some 9), none, .move (.t 0)⟩,
      ⟨(some 10), none, .len (.t 9)⟩,
      ⟨(some 11), none, .bin .lss (.t 8) (.t 10)⟩])
    (.cond (.t 11)
     (.skip)
     (.exit 0)))
    (.seq (.block 1 (.draw [⟨false, [3], [], ⟨(some 14), none, .move (.t 3)⟩⟩,
       ⟨false, [4], [], ⟨(some 15), none, .move (.t 4)⟩⟩,
       ⟨false, [3], [], ⟨(some 16), none, .move (.t 3)⟩⟩,
       ⟨false, [4], [], ⟨(some 17), none, .move (.t 4)⟩⟩,
       ⟨false, [17], [], ⟨(some 18), none, .bin .sub (.t 17) (.c (.sc (.int .i64 (1))))⟩⟩,
       ⟨false, [16, 18], [], ⟨(some 19), none, .iaddrS 1 (.t 16) (.t 18)⟩⟩,
       ⟨false, [19], [], ⟨(some 20), none, .load none (.t 19)⟩⟩,
       ⟨false, [0], [], ⟨(some 21), none, .move (.t 0)⟩⟩,
       ⟨false, [4], [], ⟨(some 22), none, .move (.t 4)⟩⟩,
       ⟨false, [22], [], ⟨(some 23), none, .bin .sub (.t 22) (.c (.sc (.int .i64 (1))))⟩⟩,
       ⟨false, [21, 23], [], ⟨(some 24), none, .iaddrS 1 (.t 21) (.t 23)⟩⟩,
       ⟨false, [24], [], ⟨(some 25), none, .load none (.t 24)⟩⟩,
       ⟨true, [20, 25], [], ⟨(some 26), none, .bin .add (.t 20) (.t 25)⟩⟩]
       [⟨(some 27), none, .iaddrS 1 (.t 14) (.t 15)⟩,
       ⟨none, none, .store 1 (.t 27) (.t 26)⟩]))
    (.ops [⟨(some 12), none, .move (.t 4)⟩,
      ⟨(some 13), none, .bin .add (.t 12) (.c (.sc (.int .i64 (1))))⟩,
      ⟨(some 4), none, .move (.t 13)⟩]))))))
  (.seq (.ops [⟨(some 28), none, .move (.t 3)⟩,
    ⟨(some 2), none, .move (.t 28)⟩])
  (.ret)))),
  [.t 2]⟩
theorem ok126 : EntryOk Tryz.prog 126 af126 := ⟨Tryz.f126, _, Tryz.func126, by decide, rfl, by kernel_rfl, by kernel_rfl, rfl⟩
/-- hemiola/ornament.Swing -/
noncomputable def af131 : AF := ⟨73, .seq (.ops [⟨(some 4), none, .box (.t 0)⟩,
    ⟨(some 8), none, .move (.c (.sc (.int .i64 (0))))⟩,
    ⟨(some 9), none, .move (.c (.sc (.int .i64 (0))))⟩])
  (.seq (.seq (.ops [⟨(some 14), none, .load (some 8) (.t 4)⟩,
    ⟨(some 15), none, .call (.c (.fn (.func 217) [] [])) [(.t 14)]⟩,
    ⟨(some 10), none, .move (.t 15)⟩])
  (.seq (.ops [⟨(some 16), none, .move (.t 10)⟩,
    ⟨(some 17), none, .bin .neq (.t 16) (.c (.sc (.int .i64 (0))))⟩])
  (.cond (.t 17)
   (.seq (.ops [⟨(some 18), none, .move (.t 10)⟩,
     ⟨(some 8), none, .move (.c (.sc (.int .i64 (0))))⟩,
     ⟨(some 9), none, .move (.t 18)⟩])
   (.ret))
   (.skip))))
  (.seq (.block 0 (.seq (.ops [⟨(some 20), none, .move (.t 1)⟩,
     ⟨(some 21), none, .bin .lss (.t 20) (.c (.sc (.int .i64 (0))))⟩,
     ⟨(some 22), none, .move (.t 21)⟩,
     ⟨(some 23), (some (22, false)), .move (.t 1)⟩,
     ⟨(some 24), (some (22, false)), .bin .gtr (.t 23) (.c (.sc (.int .i64 (4398046511104))))⟩,
     ⟨(some 25), none, .pick (.t 22) (.c (.sc (.bool true))) (.t 24)⟩,
     ⟨(some 26), none, .move (.t 25)⟩,
     ⟨(some 27), (some (26, false)), .move (.t 2)⟩,
     ⟨(some 28), (some (26, false)), .bin .lss (.t 27) (.c (.sc (.int .i64 (0))))⟩,
     ⟨(some 29), none, .pick (.t 26) (.c (.sc (.bool true))) (.t 28)⟩,
     ⟨(some 30), none, .move (.t 29)⟩,
     ⟨(some 31), (some (30, false)), .move (.t 2)⟩,
     ⟨(some 32), (some (30, false)), .bin .gtr (.t 31) (.c (.sc (.int .i64 (4398046511104))))⟩,
     ⟨(some 33), none, .pick (.t 30) (.c (.sc (.bool true))) (.t 32)⟩,
     ⟨(some 34), none, .move (.t 33)⟩,
     ⟨(some 35), (some (34, false)), .move (.t 3)⟩,
     ⟨(some 36), (some (34, false)), .bin .lss (.t 35) (.c (.sc (.int .i64 (50))))⟩,
     ⟨(some 37), none, .pick (.t 34) (.c (.sc (.bool true))) (.t 36)⟩,
     ⟨(some 38), none, .move (.t 37)⟩,
     ⟨(some 39), (some (38, false)), .move (.t 3)⟩,
     ⟨(some 40), (some (38, false)), .bin .gtr (.t 39) (.c (.sc (.int .i64 (75))))⟩,
     ⟨(some 41), none, .pick (.t 38) (.c (.sc (.bool true))) (.t 40)⟩,
     ⟨(some 19), none, .move (.t 41)⟩])
   (.cond (.t 19)
    (.seq (.ops [⟨(some 8), none, .move (.c (.sc (.int .i64 (0))))⟩,
      ⟨(some 9), none, .move (.c (.sc (.int .i64 (2))))⟩])
    (.ret))
    (.seq (.ops [⟨(some 43), none, .faddr 1 (.t 4)⟩,
      ⟨(some 44), none, .load none (.t 43)⟩,
      ⟨(some 45), none, .bin .gtr (.t 44) (.c (.sc (.int .i64 (4))))⟩,
      ⟨(some 42), none, .move (.t 45)⟩])
    (.cond (.t 42)
     (.seq (.ops [⟨(some 46), none, .move (.t 2)⟩,
       ⟨(some 8), none, .move (.t 46)⟩,
       ⟨(some 9), none, .move (.c (.sc (.int .i64 (0))))⟩])
     (.ret))
     (.skip))))))
  (.seq (.ops [⟨(some 47), none, .move (.t 1)⟩,
    ⟨(some 48), none, .move (.t 2)⟩,
    ⟨(some 49), none, .bin .add (.t 47) (.t 48)⟩,
    ⟨(some 50), none, .bin .rem (.t 49) (.c (.sc (.int .i64 (483840))))⟩,
    ⟨(some 51), none, .move (.t 3)⟩,
    ⟨(some 52), none, .bin .mul (.c (.sc (.int .i64 (483840)))) (.t 51)⟩,
    ⟨(some 53), none, .bin .quo (.t 52) (.c (.sc (.int .i64 (100))))⟩,
    ⟨(some 11), none, .move (.t 50)⟩,
    ⟨(some 12), none, .move (.t 53)⟩])
  (.seq (.ops [⟨(some 54), none, .move (.t 11)⟩,
    ⟨(some 55), none, .move (.t 12)⟩,
    ⟨(some 56), none, .bin .mul (.t 54) (.t 55)⟩,
    ⟨(some 57), none, .bin .quo (.t 56) (.c (.sc (.int .i64 (241920))))⟩,
    ⟨(some 13), none, .move (.t 57)⟩])
  (.seq (.seq (.ops [⟨(some 58), none, .move (.t 11)⟩,
    ⟨(some 59), none, .bin .geq (.t 58) (.c (.sc (.int .i64 (241920))))⟩])
  (.cond (.t 59)
   (.ops [⟨(some 60), none, .move (.t 12)⟩,
     ⟨(some 61), none, .move (.t 11)⟩,
     ⟨(some 62), none, .bin .sub (.t 61) (.c (.sc (.int .i64 (241920))))⟩,
     ⟨(some 63), none, .move (.t 12)⟩,
     ⟨(some 64), none, .bin .sub (.c (.sc (.int .i64 (483840)))) (.t 63)⟩,
     ⟨(some 65), none, .bin .mul (.t 62) (.t 64)⟩,
     ⟨(some 66), none, .bin .quo (.t 65) (.c (.sc (.int .i64 (241920))))⟩,
     ⟨(some 67), none, .bin .add (.t 60) (.t 66)⟩,
     ⟨(some 13), none, .move (.t 67)⟩])
   (.skip)))
  (.seq (.ops [⟨(some 68), none, .move (.t 2)⟩,
    ⟨(some 69), none, .move (.t 13)⟩,
    ⟨(some 70), none, .bin .add (.t 68) (.t 69)⟩,
    ⟨(some 71), none, .move (.t 11)⟩,
    ⟨(some 72), none, .bin .sub (.t 70) (.t 71)⟩,
    ⟨(some 8), none, .move (.t 72)⟩,
    ⟨(some 9), none, .move (.c (.sc (.int .i64 (0))))⟩])
  (.ret))))))),
  [.t 8, .t 9]⟩
theorem ok131 : EntryOk Tryz.prog 131 af131 := ⟨Tryz.f131, _, Tryz.func131, by decide, rfl, by kernel_rfl, by kernel_rfl, rfl⟩
/-- hemiola/key.Check -/
noncomputable def af135 : AF := ⟨9, .seq (.ops [⟨(some 2), none, .move (.c (.sc (.int .i64 (0))))⟩])
  (.seq (.seq (.ops [⟨(some 3), none, .move (.t 0)⟩,
    ⟨(some 4), none, .bin .lss (.t 3) (.c (.sc (.int .i64 (-7))))⟩,
    ⟨(some 5), none, .move (.t 4)⟩,
    ⟨(some 6), (some (5, false)), .move (.t 0)⟩,
    ⟨(some 7), (some (5, false)), .bin .gtr (.t 6) (.c (.sc (.int .i64 (7))))⟩,
    ⟨(some 8), none, .pick (.t 5) (.c (.sc (.bool true))) (.t 7)⟩])
  (.cond (.t 8)
   (.seq (.ops [⟨(some 2), none, .move (.c (.sc (.int .i64 (2))))⟩])
   (.ret))
   (.skip)))
  (.seq (.ops [⟨(some 2), none, .move (.c (.sc (.int .i64 (0))))⟩])
  (.ret))),
  [.t 2]⟩
theorem ok135 : EntryOk Tryz.prog 135 af135 := ⟨Tryz.f135, _, Tryz.func135, by decide, rfl, by kernel_rfl, by kernel_rfl, rfl⟩
/-- slices.ContainsFunc[[]hemiola/api.Spanner,hemiola/api.Spanner] -/
noncomputable def af140 : AF := ⟨9, .seq (.ops [⟨(some 4), none, .move (.c (.sc (.bool false)))⟩])
  (.seq (.ops [⟨(some 5), none, .move (.t 0)⟩,
    ⟨(some 6), none, .move (.t 1)⟩,
    ⟨(some 7), none, .call (.c (.fn (.func 228) [] [])) [(.t 5), (.t 6)]⟩,
    ⟨(some 8), none, .bin .geq (.t 7) (.c (.sc (.int .i64 (0))))⟩,
    ⟨(some 4), none, .move (.t 8)⟩])
  (.ret)),
  [.t 4]⟩
theorem ok140 : EntryOk Tryz.prog 140 af140 := ⟨Tryz.f140, _, Tryz.func140, by decide, rfl, by kernel_rfl, by kernel_rfl, rfl⟩
/-- slices.stableCmpFunc[hemiola/perform.hairpin] -/
noncomputable def af146 : AF := ⟨63, .seq (.ops [⟨(some 6), none, .move (.c (.sc (.int .i64 (20))))⟩])
  (.seq (.ops [⟨(some 10), none, .move (.t 6)⟩,
    ⟨(some 7), none, .move (.c (.sc (.int .i64 (0))))⟩,
    ⟨(some 8), none, .move (.t 10)⟩])
  (.seq (.block 0 (.loop (.seq (.seq (.ops [⟨(some 11), none, .move (.t 8)⟩,
      ⟨(some 12), none, .move (.t 1)⟩,
      ⟨(some 13), none, .bin .leq (.t 11) (.t 12)⟩])
    (.cond (.t 13)
     (.skip)
     (.exit 0)))
    (.block 1 (.seq (.ops [⟨(some 14), none, .move (.t 0)⟩,
       ⟨(some 15), none, .move (.t 7)⟩,
       ⟨(some 16), none, .move (.t 8)⟩,
       ⟨(some 17), none, .move (.t 2)⟩,
       ⟨(some 18), none, .call (.c (.fn (.func 241) [] [])) [(.t 14), (.t 15), (.t 16), (.t 17)]⟩])
     (.seq (.ops [⟨(some 19), none, .move (.t 8)⟩,
       ⟨(some 7), none, .move (.t 19)⟩])
     (.ops [⟨(some 20), none, .move (.t 8)⟩,
       ⟨(some 21), none, .move (.t 6)⟩,
       ⟨(some 22), none, .bin .add (.t 20) (.t 21)⟩,
       ⟨(some 8), none, .move (.t 22)⟩])))))))
  (.seq (.ops [⟨(some 23), none, .move (.t 0)⟩,
    ⟨(some 24), none, .move (.t 7)⟩,
    ⟨(some 25), none, .move (.t 1)⟩,
    ⟨(some 26), none, .move (.t 2)⟩,
    ⟨(some 27), none, .call (.c (.fn (.func 241) [] [])) [(.t 23), (.t 24), (.t 25), (.t 26)]⟩])
  (.block 2 (.loop (.seq (.seq (.ops [⟨(some 28), none, .move (.t 6)⟩,
      ⟨(some 29), none, .move (.t 1)⟩,
      ⟨(some 30), none, .bin .lss (.t 28) (.t 29)⟩])
    (.cond (.t 30)
     (.skip)
     (.exit 2)))
    (.block 3 (.seq (.ops [⟨(some 31), none, .move (.t 6)⟩,
       ⟨(some 32), none, .bin .mul (.c (.sc (.int .i64 (2)))) (.t 31)⟩,
       ⟨(some 7), none, .move (.c (.sc (.int .i64 (0))))⟩,
       ⟨(some 8), none, .move (.t 32)⟩])
     (.seq (.block 4 (.loop (.seq (.seq (.ops [⟨(some 33), none, .move (.t 8)⟩,
         ⟨(some 34), none, .move (.t 1)⟩,
         ⟨(some 35), none, .bin .leq (.t 33) (.t 34)⟩])
       (.cond (.t 35)
        (.skip)
        (.exit 4)))
       (.block 5 (.seq (.ops [⟨(some 36), none, .move (.t 0)⟩,
          ⟨(some 37), none, .move (.t 7)⟩,
          ⟨(some 38), none, .move (.t 7)⟩,
          ⟨(some 39), none, .move (.t 6)⟩,
          ⟨(some 40), none, .bin .add (.t 38) (.t 39)⟩,
          ⟨(some 41), none, .move (.t 8)⟩,
          ⟨(some 42), none, .move (.t 2)⟩,
          ⟨(some 43), none, .call (.c (.fn (.func 242) [] [])) [(.t 36), (.t 37), (.t 40), (.t 41), (.t 42)]⟩])
        (.seq (.ops [⟨(some 44), none, .move (.t 8)⟩,
          ⟨(some 7), none, .move (.t 44)⟩])
        (.ops [⟨(some 45), none, .move (.t 8)⟩,
          ⟨(some 46), none, .move (.t 6)⟩,
          ⟨(some 47), none, .bin .mul (.c (.sc (.int .i64 (2)))) (.t 46)⟩,
          ⟨(some 48), none, .bin .add (.t 45) (.t 47)⟩,
          ⟨(some 8), none, .move (.t 48)⟩])))))))
     (.seq (.seq (.ops [⟨(some 49), none, .move (.t 7)⟩,
       ⟨(some 50), none, .move (.t 6)⟩,
       ⟨(some 51), none, .bin .add (.t 49) (.t 50)⟩,
       ⟨(some 9), none, .move (.t 51)⟩])
     (.seq (.ops [⟨(some 52), none, .move (.t 9)⟩,
       ⟨(some 53), none, .move (.t 1)⟩,
       ⟨(some 54), none, .bin .lss (.t 52) (.t 53)⟩])
     (.cond (.t 54)
      (.ops [⟨(some 55), none, .move (.t 0)⟩,
        ⟨(some 56), none, .move (.t 7)⟩,
        ⟨(some 57), none, .move (.t 9)⟩,
        ⟨(some 58), none, .move (.t 1)⟩,
        ⟨(some 59), none, .move (.t 2)⟩,
        ⟨(some 60), none, .call (.c (.fn (.func 242) [] [])) [(.t 55), (.t 56), (.t 57), (.t 58), (.t 59)]⟩])
      (.skip))))
     (.ops [⟨(some 61), none, .move (.t 6)⟩,
       ⟨(some 62), none, .bin .mul (.t 61) (.c (.sc (.int .i64 (2))))⟩,
       ⟨(some 6), none, .move (.t 62)⟩]))))))))))),
  []⟩
theorem ok146 : EntryOk Tryz.prog 146 af146 := ⟨Tryz.f146, _, Tryz.func146, by decide, rfl, by kernel_rfl, by kernel_rfl, rfl⟩
/-- hemiola/interval.Check -/
noncomputable def af167 : AF := ⟨21, .seq (.ops [⟨(some 1), none, .box (.t 0)⟩,
    ⟨(some 2), none, .move (.c (.sc (.int .i64 (0))))⟩])
  (.seq (.seq (.ops [⟨(some 3), none, .faddr 0 (.t 1)⟩,
    ⟨(some 4), none, .load none (.t 3)⟩,
    ⟨(some 5), none, .bin .lss (.t 4) (.c (.sc (.int .i64 (-77))))⟩,
    ⟨(some 6), none, .move (.t 5)⟩,
    ⟨(some 7), (some (6, false)), .faddr 0 (.t 1)⟩,
    ⟨(some 8), (some (6, false)), .load none (.t 7)⟩,
    ⟨(some 9), (some (6, false)), .bin .gtr (.t 8) (.c (.sc (.int .i64 (77))))⟩,
    ⟨(some 10), none, .pick (.t 6) (.c (.sc (.bool true))) (.t 9)⟩,
    ⟨(some 11), none, .move (.t 10)⟩,
    ⟨(some 12), (some (11, false)), .faddr 1 (.t 1)⟩,
    ⟨(some 13), (some (11, false)), .load none (.t 12)⟩,
    ⟨(some 14), (some (11, false)), .bin .lss (.t 13) (.c (.sc (.int .i64 (-140))))⟩,
    ⟨(some 15), none, .pick (.t 11) (.c (.sc (.bool true))) (.t 14)⟩,
    ⟨(some 16), none, .move (.t 15)⟩,
    ⟨(some 17), (some (16, false)), .faddr 1 (.t 1)⟩,
    ⟨(some 18), (some (16, false)), .load none (.t 17)⟩,
    ⟨(some 19), (some (16, false)), .bin .gtr (.t 18) (.c (.sc (.int .i64 (140))))⟩,
    ⟨(some 20), none, .pick (.t 16) (.c (.sc (.bool true))) (.t 19)⟩])
  (.cond (.t 20)
   (.seq (.ops [⟨(some 2), none, .move (.c (.sc (.int .i64 (2))))⟩])
   (.ret))
   (.skip)))
  (.seq (.ops [⟨(some 2), none, .move (.c (.sc (.int .i64 (0))))⟩])
  (.ret))),
  [.t 2]⟩
theorem ok167 : EntryOk Tryz.prog 167 af167 := ⟨Tryz.f167, _, Tryz.func167, by decide, rfl, by kernel_rfl, by kernel_rfl, rfl⟩
/-- (*hemiola/check.checker).measures -/
noncomputable def af171 : AF := ⟨26, .seq (.ops [⟨(some 6), none, .move (.t 0)⟩,
    ⟨(some 7), none, .nilCheck (.t 6)⟩,
    ⟨(some 8), none, .faddr 0 (.t 7)⟩,
    ⟨(some 9), none, .faddr 3 (.t 8)⟩,
    ⟨(some 10), none, .load none (.t 9)⟩,
    ⟨(some 11), none, .len (.t 10)⟩,
    ⟨(some 12), none, .move (.c (.sc (.int .i64 (0))))⟩])
  (.block 0 (.loop (.seq (.ops [⟨(some 13), none, .bin .lss (.t 12) (.t 11)⟩])
    (.seq (.cond (.t 13)
     (.skip)
     (.exit 0))
    (.seq (.block 1 (.seq (.ops [⟨(some 14), none, .move (.t 12)⟩,
       ⟨(some 15), none, .iaddrS 22 (.t 10) (.t 12)⟩,
       ⟨(some 16), none, .load (some 22) (.t 15)⟩,
       ⟨(some 5), none, .alloc [(.sc (.int .i64 (0))), (.sc (.int .i64 (0))), (.sc (.int .i64 (0))), (.sc (.int .i64 (0))), (.sc (.int .i64 (0))), (.sc (.int .i64 (0))), (.sc (.int .i64 (0))), (.sc (.int .i64 (0))), (.sc (.int .i64 (0))), (.sc (.int .i64 (0))), (.sc (.int .i64 (0))), (.sc (.int .i64 (0))), (.sc (.bool false)), (.sc (.int .i64 (0))), (.sc (.int .i64 (0))), (.sc (.int .i64 (0))), (.sc (.int .i64 (0))), (.sc (.int .i64 (0))), (.sc (.int .i64 (0))), (.sc (.string ⟨#[]⟩)), (.sl true .full 0 []), (.sl true .full 0 [])]⟩,
       ⟨(some 4), none, .move (.t 14)⟩,
       ⟨none, none, .store 22 (.t 5) (.t 16)⟩])
     (.draw [⟨false, [0], [], ⟨(some 17), none, .move (.t 0)⟩⟩,
       ⟨false, [1], [], ⟨(some 18), none, .move (.t 1)⟩⟩,
       ⟨false, [4], [], ⟨(some 19), none, .move (.t 4)⟩⟩,
       ⟨false, [5], [], ⟨(some 20), none, .load (some 22) (.t 5)⟩⟩,
       ⟨true, [18, 19, 20], [], ⟨(some 21), none, .call (.t 18) [(.t 19), (.t 20)]⟩⟩,
       ⟨false, [5], [], ⟨(some 22), none, .faddr 0 (.t 5)⟩⟩,
       ⟨false, [22], [4], ⟨(some 23), none, .load (some 2) (.t 22)⟩⟩]
       [⟨(some 24), none, .call (.c (.fn (.func 164) [] [])) [(.t 17), (.t 21), (.t 23)]⟩])))
    (.ops [⟨(some 25), none, .bin .add (.t 12) (.c (.sc (.int .i64 (1))))⟩,
      ⟨(some 12), none, .move (.t 25)⟩])))))),
  []⟩
theorem ok171 : EntryOk Tryz.prog 171 af171 := ⟨Tryz.f171, _, Tryz.func171, by decide, rfl, by kernel_rfl, by kernel_rfl, rfl⟩
/-- (*hemiola/check.checker).metres$1 -/
noncomputable def af175 : AF := ⟨55, .seq (.ops [⟨(some 4), none, .box (.t 1)⟩,
    ⟨(some 5), none, .move (.c (.sc (.bool false)))⟩])
  (.seq (.ops [⟨(some 12), none, .load (some 22) (.t 4)⟩,
    ⟨(some 13), none, .call (.c (.fn (.func 55) [] [])) [(.t 12)]⟩,
    ⟨(some 11), none, .move (.t 13)⟩,
    ⟨(some 14), none, .extract 0 (.t 11)⟩,
    ⟨(some 15), none, .extract 1 (.t 11)⟩,
    ⟨(some 6), none, .move (.t 14)⟩,
    ⟨(some 7), none, .move (.t 15)⟩])
  (.seq (.ops [⟨(some 16), none, .move (.t 7)⟩,
    ⟨(some 17), none, .bin .neq (.t 16) (.c (.sc (.int .i64 (0))))⟩,
    ⟨(some 18), none, .move (.t 17)⟩,
    ⟨(some 19), (some (18, false)), .faddr 11 (.t 4)⟩,
    ⟨(some 20), (some (18, false)), .load none (.t 19)⟩,
    ⟨(some 21), (some (18, false)), .call (.c (.fn (.func 166) [] [])) [(.t 20), (.c (.sc (.int .i64 (-7)))), (.c (.sc (.int .i64 (7))))]⟩,
    ⟨(some 22), (some (18, false)), .un .not (.t 21)⟩,
    ⟨(some 23), none, .pick (.t 18) (.c (.sc (.bool true))) (.t 22)⟩,
    ⟨(some 8), none, .move (.t 23)⟩])
  (.seq (.seq (.ops [⟨(some 24), none, .load none (.t 2)⟩,
    ⟨(some 25), none, .nilCheck (.t 24)⟩,
    ⟨(some 26), none, .faddr 0 (.t 25)⟩,
    ⟨(some 27), none, .faddr 2 (.t 26)⟩,
    ⟨(some 28), none, .load none (.t 27)⟩,
    ⟨(some 29), none, .len (.t 28)⟩,
    ⟨(some 30), none, .move (.c (.sc (.int .i64 (0))))⟩])
  (.block 0 (.loop (.seq (.ops [⟨(some 31), none, .bin .lss (.t 30) (.t 29)⟩])
    (.seq (.cond (.t 31)
     (.skip)
     (.exit 0))
    (.seq (.block 1 (.seq (.ops [⟨(some 32), none, .iaddrS 6 (.t 28) (.t 30)⟩,
       ⟨(some 33), none, .load (some 6) (.t 32)⟩,
       ⟨(some 10), none, .alloc [(.sc (.int .i64 (0))), (.sc (.int .i64 (0))), (.sc (.string ⟨#[]⟩)), (.sc (.int .i64 (0))), (.sc (.int .i64 (0))), (.sl true .full 0 [])]⟩,
       ⟨none, none, .store 6 (.t 10) (.t 33)⟩])
     (.seq (.ops [⟨(some 34), none, .load none (.t 2)⟩,
       ⟨(some 35), none, .nilCheck (.t 34)⟩,
       ⟨(some 36), none, .faddr 0 (.t 35)⟩,
       ⟨(some 37), none, .faddr 1 (.t 36)⟩,
       ⟨(some 38), none, .load none (.t 37)⟩,
       ⟨(some 39), none, .move (.t 38)⟩,
       ⟨(some 40), (some (39, true)), .move (.t 8)⟩,
       ⟨(some 41), (some (39, true)), .un .not (.t 40)⟩,
       ⟨(some 42), none, .pick (.t 39) (.t 41) (.c (.sc (.bool false)))⟩])
     (.cond (.t 42)
      (.seq (.ops [⟨(some 44), none, .faddr 11 (.t 4)⟩,
        ⟨(some 45), none, .load none (.t 44)⟩,
        ⟨(some 46), none, .faddr 3 (.t 10)⟩,
        ⟨(some 47), none, .load (some 2) (.t 46)⟩,
        ⟨(some 48), none, .call (.c (.fn (.func 128) [] [])) [(.t 45), (.t 47)]⟩,
        ⟨(some 43), none, .move (.t 48)⟩,
        ⟨(some 49), none, .extract 0 (.t 43)⟩,
        ⟨(some 50), none, .extract 1 (.t 43)⟩,
        ⟨(some 7), none, .move (.t 50)⟩])
      (.ops [⟨(some 51), none, .move (.t 7)⟩,
        ⟨(some 52), none, .bin .neq (.t 51) (.c (.sc (.int .i64 (0))))⟩,
        ⟨(some 8), none, .move (.t 52)⟩]))
      (.skip)))))
    (.ops [⟨(some 53), none, .bin .add (.t 30) (.c (.sc (.int .i64 (1))))⟩,
      ⟨(some 30), none, .move (.t 53)⟩])))))))
  (.seq (.ops [⟨(some 54), none, .move (.t 8)⟩,
    ⟨(some 5), none, .move (.t 54)⟩])
  (.ret))))),
  [.t 5]⟩
theorem ok175 : EntryOk Tryz.prog 175 af175 := ⟨Tryz.f175, _, Tryz.func175, by decide, rfl, by kernel_rfl, by kernel_rfl, rfl⟩
/-- (*hemiola/check.checker).each -/
noncomputable def af179 : AF := ⟨63, .seq (.ops [⟨(some 12), none, .move (.t 0)⟩,
    ⟨(some 13), none, .nilCheck (.t 12)⟩,
    ⟨(some 14), none, .faddr 0 (.t 13)⟩,
    ⟨(some 15), none, .faddr 3 (.t 14)⟩,
    ⟨(some 16), none, .load none (.t 15)⟩,
    ⟨(some 17), none, .len (.t 16)⟩,
    ⟨(some 18), none, .move (.c (.sc (.int .i64 (0))))⟩])
  (.block 0 (.loop (.seq (.ops [⟨(some 19), none, .bin .lss (.t 18) (.t 17)⟩])
    (.seq (.cond (.t 19)
     (.skip)
     (.exit 0))
    (.seq (.block 1 (.seq (.ops [⟨(some 20), none, .move (.t 18)⟩,
       ⟨(some 21), none, .iaddrS 22 (.t 16) (.t 18)⟩,
       ⟨(some 22), none, .load (some 22) (.t 21)⟩,
       ⟨(some 5), none, .alloc [(.sc (.int .i64 (0))), (.sc (.int .i64 (0))), (.sc (.int .i64 (0))), (.sc (.int .i64 (0))), (.sc (.int .i64 (0))), (.sc (.int .i64 (0))), (.sc (.int .i64 (0))), (.sc (.int .i64 (0))), (.sc (.int .i64 (0))), (.sc (.int .i64 (0))), (.sc (.int .i64 (0))), (.sc (.int .i64 (0))), (.sc (.bool false)), (.sc (.int .i64 (0))), (.sc (.int .i64 (0))), (.sc (.int .i64 (0))), (.sc (.int .i64 (0))), (.sc (.int .i64 (0))), (.sc (.int .i64 (0))), (.sc (.string ⟨#[]⟩)), (.sl true .full 0 []), (.sl true .full 0 [])]⟩,
       ⟨(some 4), none, .move (.t 20)⟩,
       ⟨none, none, .store 22 (.t 5) (.t 22)⟩])
     (.seq (.ops [⟨(some 23), none, .faddr 21 (.t 5)⟩,
       ⟨(some 24), none, .load none (.t 23)⟩,
       ⟨(some 25), none, .len (.t 24)⟩,
       ⟨(some 26), none, .move (.c (.sc (.int .i64 (0))))⟩])
     (.block 2 (.loop (.seq (.ops [⟨(some 27), none, .bin .lss (.t 26) (.t 25)⟩])
       (.seq (.cond (.t 27)
        (.skip)
        (.exit 2))
       (.seq (.block 3 (.seq (.ops [⟨(some 28), none, .move (.t 26)⟩,
          ⟨(some 29), none, .iaddrS 2 (.t 24) (.t 26)⟩,
          ⟨(some 30), none, .load (some 2) (.t 29)⟩,
          ⟨(some 7), none, .alloc [(.sl true .full 0 []), (.sl true .full 0 [])]⟩,
          ⟨(some 6), none, .move (.t 28)⟩,
          ⟨none, none, .store 2 (.t 7) (.t 30)⟩])
        (.seq (.ops [⟨(some 31), none, .faddr 1 (.t 7)⟩,
          ⟨(some 32), none, .load none (.t 31)⟩,
          ⟨(some 33), none, .len (.t 32)⟩,
          ⟨(some 34), none, .move (.c (.sc (.int .i64 (0))))⟩])
        (.block 4 (.loop (.seq (.ops [⟨(some 35), none, .bin .lss (.t 34) (.t 33)⟩])
          (.seq (.cond (.t 35)
           (.skip)
           (.exit 4))
          (.seq (.block 5 (.seq (.ops [⟨(some 36), none, .move (.t 34)⟩,
             ⟨(some 37), none, .iaddrS 2 (.t 32) (.t 34)⟩,
             ⟨(some 38), none, .load (some 2) (.t 37)⟩,
             ⟨(some 9), none, .alloc [(.sl true .full 0 []), (.sl true .full 0 [])]⟩,
             ⟨(some 8), none, .move (.t 36)⟩,
             ⟨none, none, .store 2 (.t 9) (.t 38)⟩])
           (.seq (.ops [⟨(some 39), none, .faddr 0 (.t 9)⟩,
             ⟨(some 40), none, .load none (.t 39)⟩,
             ⟨(some 41), none, .len (.t 40)⟩,
             ⟨(some 42), none, .move (.c (.sc (.int .i64 (0))))⟩])
           (.block 6 (.loop (.seq (.ops [⟨(some 43), none, .bin .lss (.t 42) (.t 41)⟩])
             (.seq (.cond (.t 43)
              (.skip)
              (.exit 6))
             (.seq (.block 7 (.seq (.ops [⟨(some 44), none, .move (.t 42)⟩,
                ⟨(some 45), none, .iaddrS 13 (.t 40) (.t 42)⟩,
                ⟨(some 46), none, .load (some 13) (.t 45)⟩,
                ⟨(some 11), none, .alloc [(.sc (.int .i64 (0))), (.sc (.int .i64 (0))), (.sc (.int .i64 (0))), (.sc (.int .i64 (0))), (.sc (.int .i64 (0))), (.sl true .full 0 []), (.sl true .full 0 []), (.sc (.int .i64 (0))), (.sc (.int .i64 (0))), (.sc (.int .i64 (0))), (.sl true .full 0 []), (.sc (.int .i64 (0))), (.sc (.int .i64 (0)))]⟩,
                ⟨(some 10), none, .move (.t 44)⟩,
                ⟨none, none, .store 13 (.t 11) (.t 46)⟩])
              (.draw [⟨false, [0], [], ⟨(some 47), none, .move (.t 0)⟩⟩,
                ⟨false, [1], [], ⟨(some 48), none, .move (.t 1)⟩⟩,
                ⟨false, [6], [], ⟨(some 49), none, .move (.t 6)⟩⟩,
                ⟨false, [4], [], ⟨(some 50), none, .move (.t 4)⟩⟩,
                ⟨false, [8], [], ⟨(some 51), none, .move (.t 8)⟩⟩,
                ⟨false, [10], [], ⟨(some 52), none, .move (.t 10)⟩⟩,
                ⟨false, [49, 50, 51, 52], [], ⟨(some 53), none, .build [(.sc (.int .i64 (0))), (.sc (.int .i64 (0))), (.sc (.int .i64 (0))), (.sc (.int .i64 (0))), (.sc (.int .i64 (0))), (.sc (.int .i64 (0))), (.sc (.int .i64 (0)))] [((0, 1), (.c (.sc (.int .i64 (4))))), ((2, 1), (.t 49)), ((3, 1), (.t 50)), ((4, 1), (.t 51)), ((5, 1), (.t 52))]⟩⟩,
                ⟨false, [11], [], ⟨(some 54), none, .load (some 13) (.t 11)⟩⟩,
                ⟨true, [48, 53, 54], [], ⟨(some 55), none, .call (.t 48) [(.t 53), (.t 54)]⟩⟩,
                ⟨false, [11], [], ⟨(some 56), none, .faddr 0 (.t 11)⟩⟩,
                ⟨false, [56], [8], ⟨(some 57), none, .load (some 2) (.t 56)⟩⟩]
                [⟨(some 58), none, .call (.c (.fn (.func 164) [] [])) [(.t 47), (.t 55), (.t 57)]⟩])))
             (.ops [⟨(some 59), none, .bin .add (.t 42) (.c (.sc (.int .i64 (1))))⟩,
               ⟨(some 42), none, .move (.t 59)⟩])))))))))
          (.ops [⟨(some 60), none, .bin .add (.t 34) (.c (.sc (.int .i64 (1))))⟩,
            ⟨(some 34), none, .move (.t 60)⟩])))))))))
       (.ops [⟨(some 61), none, .bin .add (.t 26) (.c (.sc (.int .i64 (1))))⟩,
         ⟨(some 26), none, .move (.t 61)⟩])))))))))
    (.ops [⟨(some 62), none, .bin .add (.t 18) (.c (.sc (.int .i64 (1))))⟩,
      ⟨(some 18), none, .move (.t 62)⟩])))))),
  []⟩
theorem ok179 : EntryOk Tryz.prog 179 af179 := ⟨Tryz.f179, _, Tryz.func179, by decide, rfl, by kernel_rfl, by kernel_rfl, rfl⟩
/-- (*hemiola/check.checker).pitches$1$1 -/
noncomputable def af183 : AF := ⟨16, .seq (.ops [⟨(some 2), none, .box (.t 0)⟩,
    ⟨(some 3), none, .move (.c (.sc (.bool false)))⟩])
  (.seq (.ops [⟨(some 7), none, .load (some 3) (.t 2)⟩,
    ⟨(some 8), none, .call (.c (.fn (.func 134) [] [])) [(.t 7)]⟩,
    ⟨(some 6), none, .move (.t 8)⟩,
    ⟨(some 9), none, .extract 0 (.t 6)⟩,
    ⟨(some 10), none, .extract 1 (.t 6)⟩,
    ⟨(some 4), none, .move (.t 9)⟩,
    ⟨(some 5), none, .move (.t 10)⟩])
  (.seq (.ops [⟨(some 11), none, .move (.t 4)⟩,
    ⟨(some 12), none, .load none (.t 1)⟩,
    ⟨(some 13), none, .bin .add (.t 11) (.t 12)⟩,
    ⟨(some 14), none, .call (.c (.fn (.func 166) [] [])) [(.t 13), (.c (.sc (.int .i64 (0)))), (.c (.sc (.int .i64 (127))))]⟩,
    ⟨(some 15), none, .un .not (.t 14)⟩,
    ⟨(some 3), none, .move (.t 15)⟩])
  (.ret))),
  [.t 3]⟩
theorem ok183 : EntryOk Tryz.prog 183 af183 := ⟨Tryz.f183, _, Tryz.func183, by decide, rfl, by kernel_rfl, by kernel_rfl, rfl⟩
/-- (*hemiola/check.checker).ties$1 -/
noncomputable def af188 : AF := ⟨39, .seq (.ops [⟨(some 3), none, .box (.t 0)⟩,
    ⟨(some 4), none, .box (.t 1)⟩,
    ⟨(some 5), none, .move (.c (.sc (.bool false)))⟩])
  (.seq (.seq (.ops [⟨(some 10), none, .load (some 13) (.t 4)⟩,
    ⟨(some 11), none, .call (.c (.fn (.func 189) [] [])) [(.t 10)]⟩,
    ⟨(some 12), none, .un .not (.t 11)⟩])
  (.cond (.t 12)
   (.seq (.ops [⟨(some 5), none, .move (.c (.sc (.bool false)))⟩])
   (.ret))
   (.skip)))
  (.seq (.draw [⟨false, [2], [], ⟨(some 14), none, .load none (.t 2)⟩⟩,
    ⟨false, [14], [], ⟨(some 15), none, .nilCheck (.t 14)⟩⟩,
    ⟨false, [15], [], ⟨(some 16), none, .faddr 0 (.t 15)⟩⟩,
    ⟨false, [16], [], ⟨(some 17), none, .load (some 6) (.t 16)⟩⟩,
    ⟨false, [3], [], ⟨(some 18), none, .load (some 7) (.t 3)⟩⟩,
    ⟨true, [17, 18], [], ⟨(some 19), none, .call (.c (.fn (.func 190) [] [])) [(.t 17), (.t 18)]⟩⟩,
    ⟨false, [19], [], ⟨(some 13), none, .move (.t 19)⟩⟩,
    ⟨false, [13], [], ⟨(some 20), none, .extract 0 (.t 13)⟩⟩,
    ⟨false, [13], [], ⟨(some 21), none, .extract 1 (.t 13)⟩⟩,
    ⟨false, [], [5], ⟨(some 6), none, .alloc [(.sc (.int .i64 (0))), (.sc (.int .i64 (0))), (.sc (.int .i64 (0))), (.sc (.int .i64 (0))), (.sc (.int .i64 (0))), (.sc (.int .i64 (0))), (.sc (.int .i64 (0)))]⟩⟩,
    ⟨true, [6, 20], [], ⟨none, none, .store 7 (.t 6) (.t 20)⟩⟩]
    [⟨(some 7), none, .move (.t 21)⟩])
  (.seq (.draw [⟨false, [2], [], ⟨(some 23), none, .load none (.t 2)⟩⟩,
    ⟨false, [23], [], ⟨(some 24), none, .nilCheck (.t 23)⟩⟩,
    ⟨false, [24], [], ⟨(some 25), none, .faddr 0 (.t 24)⟩⟩,
    ⟨false, [25], [], ⟨(some 26), none, .load (some 6) (.t 25)⟩⟩,
    ⟨false, [6], [], ⟨(some 27), none, .load (some 7) (.t 6)⟩⟩,
    ⟨true, [26, 27], [], ⟨(some 28), none, .call (.c (.fn (.func 191) [] [])) [(.t 26), (.t 27)]⟩⟩,
    ⟨false, [28], [], ⟨(some 22), none, .move (.t 28)⟩⟩,
    ⟨false, [22], [], ⟨(some 29), none, .extract 0 (.t 22)⟩⟩,
    ⟨false, [22], [], ⟨(some 30), none, .extract 1 (.t 22)⟩⟩,
    ⟨false, [], [5], ⟨(some 8), none, .alloc [(.sc (.int .i64 (0))), (.sc (.int .i64 (0))), (.sc (.int .i64 (0))), (.sc (.int .i64 (0))), (.sc (.int .i64 (0))), (.sl true .full 0 []), (.sl true .full 0 []), (.sc (.int .i64 (0))), (.sc (.int .i64 (0))), (.sc (.int .i64 (0))), (.sl true .full 0 []), (.sc (.int .i64 (0))), (.sc (.int .i64 (0)))]⟩⟩,
    ⟨true, [8, 29], [], ⟨none, none, .store 13 (.t 8) (.t 29)⟩⟩]
    [⟨(some 9), none, .move (.t 30)⟩])
  (.seq (.ops [⟨(some 31), none, .move (.t 7)⟩,
    ⟨(some 32), none, .un .not (.t 31)⟩,
    ⟨(some 33), none, .move (.t 32)⟩,
    ⟨(some 34), (some (33, false)), .load (some 13) (.t 4)⟩,
    ⟨(some 35), (some (33, false)), .load (some 13) (.t 8)⟩,
    ⟨(some 36), (some (33, false)), .call (.c (.fn (.func 192) [] [])) [(.t 34), (.t 35)]⟩,
    ⟨(some 37), (some (33, false)), .un .not (.t 36)⟩,
    ⟨(some 38), none, .pick (.t 33) (.c (.sc (.bool true))) (.t 37)⟩,
    ⟨(some 5), none, .move (.t 38)⟩])
  (.ret))))),
  [.t 5]⟩
theorem ok188 : EntryOk Tryz.prog 188 af188 := ⟨Tryz.f188, _, Tryz.func188, by decide, rfl, by kernel_rfl, by kernel_rfl, rfl⟩
/-- (*hemiola/check.checker).lyrics$1 -/
noncomputable def af194 : AF := ⟨9, .seq (.ops [⟨(some 3), none, .box (.t 0)⟩,
    ⟨(some 4), none, .box (.t 1)⟩,
    ⟨(some 5), none, .move (.c (.sc (.bool false)))⟩])
  (.seq (.ops [⟨(some 6), none, .load none (.t 2)⟩,
    ⟨(some 7), none, .load (some 7) (.t 3)⟩,
    ⟨(some 8), none, .lookup [.i, .i, .i, .i, .i, .i, .i] true (.sc (.bool false)) (.t 6) (.t 7) false⟩,
    ⟨(some 5), none, .move (.t 8)⟩])
  (.ret)),
  [.t 5]⟩
theorem ok194 : EntryOk Tryz.prog 194 af194 := ⟨Tryz.f194, _, Tryz.func194, by decide, rfl, by kernel_rfl, by kernel_rfl, rfl⟩
/-- (*hemiola/check.checker).jumps$1 -/
noncomputable def af200 : AF := ⟨55, .seq (.ops [⟨(some 4), none, .box (.t 1)⟩,
    ⟨(some 5), none, .move (.c (.sc (.bool false)))⟩])
  (.seq (.seq (.ops [⟨(some 7), none, .faddr 15 (.t 4)⟩,
    ⟨(some 8), none, .load none (.t 7)⟩,
    ⟨(some 9), none, .call (.c (.fn (.func 166) [] [])) [(.t 8), (.c (.sc (.int .i64 (0)))), (.c (.sc (.int .i64 (6))))]⟩,
    ⟨(some 10), none, .un .not (.t 9)⟩,
    ⟨(some 11), none, .move (.t 10)⟩,
    ⟨(some 12), (some (11, false)), .faddr 16 (.t 4)⟩,
    ⟨(some 13), (some (11, false)), .load none (.t 12)⟩,
    ⟨(some 14), (some (11, false)), .call (.c (.fn (.func 166) [] [])) [(.t 13), (.c (.sc (.int .i64 (0)))), (.c (.sc (.int .i64 (15))))]⟩,
    ⟨(some 15), (some (11, false)), .un .not (.t 14)⟩,
    ⟨(some 16), none, .pick (.t 11) (.c (.sc (.bool true))) (.t 15)⟩,
    ⟨(some 17), none, .move (.t 16)⟩,
    ⟨(some 18), (some (17, false)), .faddr 15 (.t 4)⟩,
    ⟨(some 19), (some (17, false)), .load none (.t 18)⟩,
    ⟨(some 20), (some (17, false)), .bin .neq (.t 19) (.c (.sc (.int .i64 (0))))⟩,
    ⟨(some 21), (some (17, false)), .move (.t 20)⟩,
    ⟨(some 22), (some (21, false)), .faddr 16 (.t 4)⟩,
    ⟨(some 23), (some (21, false)), .load none (.t 22)⟩,
    ⟨(some 24), (some (21, false)), .bin .neq (.t 23) (.c (.sc (.int .i64 (0))))⟩,
    ⟨(some 25), (some (17, false)), .pick (.t 21) (.c (.sc (.bool true))) (.t 24)⟩,
    ⟨(some 26), (some (17, false)), .move (.t 25)⟩,
    ⟨(some 27), (some (26, true)), .faddr 13 (.t 4)⟩,
    ⟨(some 28), (some (26, true)), .load none (.t 27)⟩,
    ⟨(some 29), (some (26, true)), .bin .neq (.t 28) (.c (.sc (.int .i64 (0))))⟩,
    ⟨(some 30), (some (26, true)), .move (.t 29)⟩,
    ⟨(some 31), (some (30, false)), .faddr 14 (.t 4)⟩,
    ⟨(some 32), (some (30, false)), .load none (.t 31)⟩,
    ⟨(some 33), (some (30, false)), .bin .neq (.t 32) (.c (.sc (.int .i64 (0))))⟩,
    ⟨(some 34), (some (26, true)), .pick (.t 30) (.c (.sc (.bool true))) (.t 33)⟩,
    ⟨(some 35), (some (17, false)), .pick (.t 26) (.t 34) (.c (.sc (.bool false)))⟩,
    ⟨(some 36), none, .pick (.t 17) (.c (.sc (.bool true))) (.t 35)⟩])
  (.cond (.t 36)
   (.seq (.ops [⟨(some 5), none, .move (.c (.sc (.bool true)))⟩])
   (.ret))
   (.skip)))
  (.seq (.ops [⟨(some 37), none, .mkFn (.func 201) [] [(.t 4)]⟩,
    ⟨(some 6), none, .move (.t 37)⟩])
  (.seq (.ops [⟨(some 38), none, .load none (.t 2)⟩,
    ⟨(some 39), none, .nilCheck (.t 38)⟩,
    ⟨(some 40), none, .faddr 0 (.t 39)⟩,
    ⟨(some 41), none, .faddr 3 (.t 40)⟩,
    ⟨(some 42), none, .load none (.t 41)⟩,
    ⟨(some 43), none, .move (.t 0)⟩,
    ⟨(some 44), none, .slSl 22 (.t 42) none (some (.t 43)) none⟩,
    ⟨(some 45), none, .move (.t 6)⟩,
    ⟨(some 46), none, .call (.c (.fn (.func 202) [] [])) [(.t 44), (.t 45)]⟩,
    ⟨(some 47), none, .move (.t 46)⟩,
    ⟨(some 48), (some (47, false)), .load none (.t 2)⟩,
    ⟨(some 49), (some (47, false)), .faddr 15 (.t 4)⟩,
    ⟨(some 50), (some (47, false)), .load none (.t 49)⟩,
    ⟨(some 51), (some (47, false)), .move (.t 0)⟩,
    ⟨(some 52), (some (47, false)), .call (.c (.fn (.func 203) [] [])) [(.t 48), (.t 50), (.t 51)]⟩,
    ⟨(some 53), (some (47, false)), .un .not (.t 52)⟩,
    ⟨(some 54), none, .pick (.t 47) (.c (.sc (.bool true))) (.t 53)⟩,
    ⟨(some 5), none, .move (.t 54)⟩])
  (.ret)))),
  [.t 5]⟩
theorem ok200 : EntryOk Tryz.prog 200 af200 := ⟨Tryz.f200, _, Tryz.func200, by decide, rfl, by kernel_rfl, by kernel_rfl, rfl⟩
/-- (*hemiola/check.checker).margins$1 -/
noncomputable def af205 : AF := ⟨82, .seq (.ops [⟨(some 3), none, .box (.t 0)⟩,
    ⟨(some 4), none, .box (.t 1)⟩,
    ⟨(some 5), none, .move (.c (.sc (.bool false)))⟩])
  (.seq (.draw [⟨false, [2], [], ⟨(some 11), none, .load none (.t 2)⟩⟩,
    ⟨false, [11], [], ⟨(some 12), none, .nilCheck (.t 11)⟩⟩,
    ⟨false, [12], [], ⟨(some 13), none, .faddr 0 (.t 12)⟩⟩,
    ⟨false, [13], [], ⟨(some 14), none, .load (some 6) (.t 13)⟩⟩,
    ⟨false, [3], [], ⟨(some 15), none, .load (some 7) (.t 3)⟩⟩,
    ⟨true, [14, 15], [], ⟨(some 16), none, .call (.c (.fn (.func 190) [] [])) [(.t 14), (.t 15)]⟩⟩,
    ⟨false, [16], [], ⟨(some 10), none, .move (.t 16)⟩⟩,
    ⟨false, [10], [], ⟨(some 17), none, .extract 0 (.t 10)⟩⟩,
    ⟨false, [10], [], ⟨(some 18), none, .extract 1 (.t 10)⟩⟩,
    ⟨false, [], [5], ⟨(some 6), none, .alloc [(.sc (.int .i64 (0))), (.sc (.int .i64 (0))), (.sc (.int .i64 (0))), (.sc (.int .i64 (0))), (.sc (.int .i64 (0))), (.sc (.int .i64 (0))), (.sc (.int .i64 (0)))]⟩⟩,
    ⟨true, [6, 17], [], ⟨none, none, .store 7 (.t 6) (.t 17)⟩⟩]
    [⟨(some 7), none, .move (.t 18)⟩])
  (.seq (.seq (.ops [⟨(some 19), none, .move (.t 7)⟩,
    ⟨(some 20), none, .un .not (.t 19)⟩,
    ⟨(some 21), none, .move (.t 20)⟩,
    ⟨(some 22), (some (21, false)), .load (some 13) (.t 4)⟩,
    ⟨(some 23), (some (21, false)), .call (.c (.fn (.func 189) [] [])) [(.t 22)]⟩,
    ⟨(some 24), (some (21, false)), .un .not (.t 23)⟩,
    ⟨(some 25), none, .pick (.t 21) (.c (.sc (.bool true))) (.t 24)⟩,
    ⟨(some 26), none, .move (.t 25)⟩,
    ⟨(some 27), (some (26, false)), .faddr 3 (.t 6)⟩,
    ⟨(some 28), (some (26, false)), .load none (.t 27)⟩,
    ⟨(some 29), (some (26, false)), .faddr 3 (.t 3)⟩,
    ⟨(some 30), (some (26, false)), .load none (.t 29)⟩,
    ⟨(some 31), (some (26, false)), .bin .eql (.t 28) (.t 30)⟩,
    ⟨(some 32), none, .pick (.t 26) (.c (.sc (.bool true))) (.t 31)⟩])
  (.cond (.t 32)
   (.seq (.ops [⟨(some 5), none, .move (.c (.sc (.bool false)))⟩])
   (.ret))
   (.skip)))
  (.seq (.draw [⟨false, [2], [], ⟨(some 33), none, .load none (.t 2)⟩⟩,
    ⟨false, [33], [], ⟨(some 34), none, .nilCheck (.t 33)⟩⟩,
    ⟨false, [34], [], ⟨(some 35), none, .faddr 0 (.t 34)⟩⟩,
    ⟨false, [35], [], ⟨(some 36), none, .faddr 3 (.t 35)⟩⟩,
    ⟨false, [36], [], ⟨(some 37), none, .load none (.t 36)⟩⟩,
    ⟨false, [3], [], ⟨(some 38), none, .faddr 3 (.t 3)⟩⟩,
    ⟨false, [38], [], ⟨(some 39), none, .load none (.t 38)⟩⟩,
    ⟨false, [37, 39], [], ⟨(some 40), none, .iaddrS 22 (.t 37) (.t 39)⟩⟩,
    ⟨false, [40], [], ⟨(some 41), none, .load (some 22) (.t 40)⟩⟩,
    ⟨false, [2], [20], ⟨(some 42), none, .load none (.t 2)⟩⟩,
    ⟨false, [42], [], ⟨(some 43), none, .nilCheck (.t 42)⟩⟩,
    ⟨false, [43], [], ⟨(some 44), none, .faddr 0 (.t 43)⟩⟩,
    ⟨false, [44], [], ⟨(some 45), none, .faddr 3 (.t 44)⟩⟩,
    ⟨false, [45], [20], ⟨(some 46), none, .load none (.t 45)⟩⟩,
    ⟨false, [6], [], ⟨(some 47), none, .faddr 3 (.t 6)⟩⟩,
    ⟨false, [47], [20], ⟨(some 48), none, .load none (.t 47)⟩⟩,
    ⟨false, [46, 48], [], ⟨(some 49), none, .iaddrS 22 (.t 46) (.t 48)⟩⟩,
    ⟨false, [49], [20], ⟨(some 50), none, .load (some 22) (.t 49)⟩⟩,
    ⟨false, [], [], ⟨(some 8), none, .alloc [(.sc (.int .i64 (0))), (.sc (.int .i64 (0))), (.sc (.int .i64 (0))), (.sc (.int .i64 (0))), (.sc (.int .i64 (0))), (.sc (.int .i64 (0))), (.sc (.int .i64 (0))), (.sc (.int .i64 (0))), (.sc (.int .i64 (0))), (.sc (.int .i64 (0))), (.sc (.int .i64 (0))), (.sc (.int .i64 (0))), (.sc (.bool false)), (.sc (.int .i64 (0))), (.sc (.int .i64 (0))), (.sc (.int .i64 (0))), (.sc (.int .i64 (0))), (.sc (.int .i64 (0))), (.sc (.int .i64 (0))), (.sc (.string ⟨#[]⟩)), (.sl true .full 0 []), (.sl true .full 0 [])]⟩⟩,
    ⟨false, [], [], ⟨(some 9), none, .alloc [(.sc (.int .i64 (0))), (.sc (.int .i64 (0))), (.sc (.int .i64 (0))), (.sc (.int .i64 (0))), (.sc (.int .i64 (0))), (.sc (.int .i64 (0))), (.sc (.int .i64 (0))), (.sc (.int .i64 (0))), (.sc (.int .i64 (0))), (.sc (.int .i64 (0))), (.sc (.int .i64 (0))), (.sc (.int .i64 (0))), (.sc (.bool false)), (.sc (.int .i64 (0))), (.sc (.int .i64 (0))), (.sc (.int .i64 (0))), (.sc (.int .i64 (0))), (.sc (.int .i64 (0))), (.sc (.int .i64 (0))), (.sc (.string ⟨#[]⟩)), (.sl true .full 0 []), (.sl true .full 0 [])]⟩⟩,
    ⟨true, [8, 41], [], ⟨none, none, .store 22 (.t 8) (.t 41)⟩⟩]
    [⟨none, none, .store 22 (.t 9) (.t 50)⟩])
  (.seq (.ops [⟨(some 51), none, .faddr 13 (.t 8)⟩,
    ⟨(some 52), none, .load none (.t 51)⟩,
    ⟨(some 53), none, .bin .neq (.t 52) (.c (.sc (.int .i64 (0))))⟩,
    ⟨(some 54), none, .move (.t 53)⟩,
    ⟨(some 55), (some (54, false)), .faddr 15 (.t 8)⟩,
    ⟨(some 56), (some (54, false)), .load none (.t 55)⟩,
    ⟨(some 57), (some (54, false)), .bin .neq (.t 56) (.c (.sc (.int .i64 (0))))⟩,
    ⟨(some 58), none, .pick (.t 54) (.c (.sc (.bool true))) (.t 57)⟩,
    ⟨(some 59), none, .move (.t 58)⟩,
    ⟨(some 60), (some (59, false)), .faddr 16 (.t 8)⟩,
    ⟨(some 61), (some (59, false)), .load none (.t 60)⟩,
    ⟨(some 62), (some (59, false)), .bin .and (.t 61) (.c (.sc (.int .i64 (12))))⟩,
    ⟨(some 63), (some (59, false)), .bin .neq (.t 62) (.c (.sc (.int .i64 (0))))⟩,
    ⟨(some 64), none, .pick (.t 59) (.c (.sc (.bool true))) (.t 63)⟩,
    ⟨(some 65), none, .move (.t 64)⟩,
    ⟨(some 66), (some (65, false)), .faddr 14 (.t 8)⟩,
    ⟨(some 67), (some (65, false)), .load none (.t 66)⟩,
    ⟨(some 68), (some (65, false)), .faddr 14 (.t 9)⟩,
    ⟨(some 69), (some (65, false)), .load none (.t 68)⟩,
    ⟨(some 70), (some (65, false)), .bin .neq (.t 67) (.t 69)⟩,
    ⟨(some 71), none, .pick (.t 65) (.c (.sc (.bool true))) (.t 70)⟩,
    ⟨(some 72), none, .move (.t 71)⟩,
    ⟨(some 73), (some (72, false)), .faddr 12 (.t 9)⟩,
    ⟨(some 74), (some (72, false)), .load none (.t 73)⟩,
    ⟨(some 75), none, .pick (.t 72) (.c (.sc (.bool true))) (.t 74)⟩,
    ⟨(some 76), none, .move (.t 75)⟩,
    ⟨(some 77), (some (76, false)), .faddr 16 (.t 9)⟩,
    ⟨(some 78), (some (76, false)), .load none (.t 77)⟩,
    ⟨(some 79), (some (76, false)), .bin .and (.t 78) (.c (.sc (.int .i64 (3))))⟩,
    ⟨(some 80), (some (76, false)), .bin .neq (.t 79) (.c (.sc (.int .i64 (0))))⟩,
    ⟨(some 81), none, .pick (.t 76) (.c (.sc (.bool true))) (.t 80)⟩,
    ⟨(some 5), none, .move (.t 81)⟩])
  (.ret))))),
  [.t 5]⟩
theorem ok205 : EntryOk Tryz.prog 205 af205 := ⟨Tryz.f205, _, Tryz.func205, by decide, rfl, by kernel_rfl, by kernel_rfl, rfl⟩
/-- slices.Collect[hemiola/api.Note] -/
noncomputable def af213 : AF := ⟨5, .seq (.ops [⟨(some 2), none, .move (.c (.sl true .full 0 []))⟩])
  (.seq (.ops [⟨(some 3), none, .move (.t 0)⟩,
    ⟨(some 4), none, .call (.c (.fn (.func 297) [] [])) [(.c (.sl true .full 0 [])), (.t 3)]⟩,
    ⟨(some 2), none, .move (.t 4)⟩])
  (.ret)),
  [.t 2]⟩
theorem ok213 : EntryOk Tryz.prog 213 af213 := ⟨Tryz.f213, _, Tryz.func213, by decide, rfl, by kernel_rfl, by kernel_rfl, rfl⟩
/-- hemiola/metre.Check -/
noncomputable def af217 : AF := ⟨34, .seq (.ops [⟨(some 1), none, .box (.t 0)⟩,
    ⟨(some 2), none, .move (.c (.sc (.int .i64 (0))))⟩])
  (.seq (.block 0 (.seq (.ops [⟨(some 4), none, .faddr 0 (.t 1)⟩,
     ⟨(some 5), none, .load none (.t 4)⟩,
     ⟨(some 6), none, .bin .lss (.t 5) (.c (.sc (.int .i64 (1))))⟩,
     ⟨(some 7), none, .move (.t 6)⟩,
     ⟨(some 8), (some (7, false)), .faddr 0 (.t 1)⟩,
     ⟨(some 9), (some (7, false)), .load none (.t 8)⟩,
     ⟨(some 10), (some (7, false)), .bin .gtr (.t 9) (.c (.sc (.int .i64 (64))))⟩,
     ⟨(some 11), none, .pick (.t 7) (.c (.sc (.bool true))) (.t 10)⟩,
     ⟨(some 3), none, .move (.t 11)⟩])
   (.cond (.t 3)
    (.seq (.ops [⟨(some 2), none, .move (.c (.sc (.int .i64 (2))))⟩])
    (.ret))
    (.seq (.ops [⟨(some 13), none, .faddr 1 (.t 1)⟩,
      ⟨(some 14), none, .load none (.t 13)⟩,
      ⟨(some 15), none, .bin .lss (.t 14) (.c (.sc (.int .i64 (1))))⟩,
      ⟨(some 16), none, .move (.t 15)⟩,
      ⟨(some 17), (some (16, false)), .faddr 1 (.t 1)⟩,
      ⟨(some 18), (some (16, false)), .load none (.t 17)⟩,
      ⟨(some 19), (some (16, false)), .bin .gtr (.t 18) (.c (.sc (.int .i64 (64))))⟩,
      ⟨(some 20), none, .pick (.t 16) (.c (.sc (.bool true))) (.t 19)⟩,
      ⟨(some 21), none, .move (.t 20)⟩,
      ⟨(some 22), (some (21, false)), .faddr 1 (.t 1)⟩,
      ⟨(some 23), (some (21, false)), .load none (.t 22)⟩,
      ⟨(some 24), (some (21, false)), .faddr 1 (.t 1)⟩,
      ⟨(some 25), (some (21, false)), .load none (.t 24)⟩,
      ⟨(some 26), (some (21, false)), .bin .sub (.t 25) (.c (.sc (.int .i64 (1))))⟩,
      ⟨(some 27), (some (21, false)), .bin .and (.t 23) (.t 26)⟩,
      ⟨(some 28), (some (21, false)), .bin .neq (.t 27) (.c (.sc (.int .i64 (0))))⟩,
      ⟨(some 29), none, .pick (.t 21) (.c (.sc (.bool true))) (.t 28)⟩,
      ⟨(some 12), none, .move (.t 29)⟩])
    (.cond (.t 12)
     (.seq (.ops [⟨(some 2), none, .move (.c (.sc (.int .i64 (17))))⟩])
     (.ret))
     (.seq (.ops [⟨(some 31), none, .load (some 8) (.t 1)⟩,
       ⟨(some 32), none, .call (.c (.fn (.func 302) [] [])) [(.t 31)]⟩,
       ⟨(some 33), none, .un .not (.t 32)⟩,
       ⟨(some 30), none, .move (.t 33)⟩])
     (.cond (.t 30)
      (.seq (.ops [⟨(some 2), none, .move (.c (.sc (.int .i64 (19))))⟩])
      (.ret))
      (.skip))))))))
  (.seq (.ops [⟨(some 2), none, .move (.c (.sc (.int .i64 (0))))⟩])
  (.ret))),
  [.t 2]⟩
theorem ok217 : EntryOk Tryz.prog 217 af217 := ⟨Tryz.f217, _, Tryz.func217, by decide, rfl, by kernel_rfl, by kernel_rfl, rfl⟩
/-- hemiola/metre.Offset -/
noncomputable def af221 : AF := ⟨23, .seq (.ops [⟨(some 2), none, .box (.t 0)⟩,
    ⟨(some 4), none, .move (.c (.sc (.int .i64 (0))))⟩,
    ⟨(some 5), none, .move (.c (.sc (.int .i64 (0))))⟩])
  (.seq (.seq (.ops [⟨(some 7), none, .load (some 8) (.t 2)⟩,
    ⟨(some 8), none, .call (.c (.fn (.func 217) [] [])) [(.t 7)]⟩,
    ⟨(some 6), none, .move (.t 8)⟩])
  (.seq (.ops [⟨(some 9), none, .move (.t 6)⟩,
    ⟨(some 10), none, .bin .neq (.t 9) (.c (.sc (.int .i64 (0))))⟩])
  (.cond (.t 10)
   (.seq (.ops [⟨(some 11), none, .move (.t 6)⟩,
     ⟨(some 4), none, .move (.c (.sc (.int .i64 (0))))⟩,
     ⟨(some 5), none, .move (.t 11)⟩])
   (.ret))
   (.skip))))
  (.seq (.seq (.ops [⟨(some 12), none, .move (.t 1)⟩,
    ⟨(some 13), none, .bin .lss (.t 12) (.c (.sc (.int .i64 (1))))⟩,
    ⟨(some 14), none, .move (.t 13)⟩,
    ⟨(some 15), (some (14, false)), .move (.t 1)⟩,
    ⟨(some 16), (some (14, false)), .bin .gtr (.t 15) (.c (.sc (.int .i64 (4398046511104))))⟩,
    ⟨(some 17), none, .pick (.t 14) (.c (.sc (.bool true))) (.t 16)⟩])
  (.cond (.t 17)
   (.seq (.ops [⟨(some 4), none, .move (.c (.sc (.int .i64 (0))))⟩,
     ⟨(some 5), none, .move (.c (.sc (.int .i64 (2))))⟩])
   (.ret))
   (.skip)))
  (.seq (.ops [⟨(some 18), none, .load (some 8) (.t 2)⟩,
    ⟨(some 19), none, .call (.c (.fn (.func 218) [] [])) [(.t 18)]⟩,
    ⟨(some 20), none, .move (.t 1)⟩,
    ⟨(some 21), none, .bin .sub (.t 19) (.t 20)⟩,
    ⟨(some 22), none, .mm true [(.c (.sc (.int .i64 (0)))), (.t 21)]⟩,
    ⟨(some 4), none, .move (.t 22)⟩,
    ⟨(some 5), none, .move (.c (.sc (.int .i64 (0))))⟩])
  (.ret)))),
  [.t 4, .t 5]⟩
theorem ok221 : EntryOk Tryz.prog 221 af221 := ⟨Tryz.f221, _, Tryz.func221, by decide, rfl, by kernel_rfl, by kernel_rfl, rfl⟩
/-- hemiola/pitch.number -/
noncomputable def af225 : AF := ⟨15, .seq (.ops [⟨(some 1), none, .box (.t 0)⟩,
    ⟨(some 2), none, .move (.c (.sc (.int .i64 (0))))⟩])
  (.seq (.draw [⟨false, [1], [], ⟨(some 3), none, .faddr 2 (.t 1)⟩⟩,
    ⟨false, [3], [4], ⟨(some 4), none, .load none (.t 3)⟩⟩,
    ⟨false, [4], [], ⟨(some 5), none, .bin .add (.t 4) (.c (.sc (.int .i64 (1))))⟩⟩,
    ⟨false, [5], [], ⟨(some 6), none, .bin .mul (.c (.sc (.int .i64 (12)))) (.t 5)⟩⟩,
    ⟨true, [], [], ⟨(some 7), none, .call (.c (.fn (.func 308) [] [])) []⟩⟩,
    ⟨false, [1], [], ⟨(some 8), none, .faddr 0 (.t 1)⟩⟩,
    ⟨false, [8], [4], ⟨(some 9), none, .load none (.t 8)⟩⟩,
    ⟨false, [7, 9], [], ⟨(some 10), none, .idxA 1 7 none (.t 7) (.t 9)⟩⟩,
    ⟨false, [6, 10], [], ⟨(some 11), none, .bin .add (.t 6) (.t 10)⟩⟩,
    ⟨false, [1], [], ⟨(some 12), none, .faddr 1 (.t 1)⟩⟩,
    ⟨false, [12], [4], ⟨(some 13), none, .load none (.t 12)⟩⟩]
    [⟨(some 14), none, .bin .add (.t 11) (.t 13)⟩,
    ⟨(some 2), none, .move (.t 14)⟩])
  (.ret)),
  [.t 2]⟩
theorem ok225 : EntryOk Tryz.prog 225 af225 := ⟨Tryz.f225, _, Tryz.func225, by decide, rfl, by kernel_rfl, by kernel_rfl, rfl⟩
/-- slices.insertionSortCmpFunc[hemiola/api.Played] -/
noncomputable def af229 : AF := ⟨53, .seq (.ops [⟨(some 10), none, .move (.t 1)⟩,
    ⟨(some 11), none, .bin .add (.t 10) (.c (.sc (.int .i64 (1))))⟩,
    ⟨(some 8), none, .move (.t 11)⟩])
  (.block 0 (.loop (.seq (.seq (.ops [⟨(some 12), none, .move (.t 8)⟩,
      ⟨(some 13), none, .move (.t 2)⟩,
      ⟨(some 14), none, .bin .lss (.t 12) (.t 13)⟩])
    (.cond (.t 14)
     (.skip)
     (.exit 0)))
    (.seq (.block 1 (.seq (.ops [⟨(some 17), none, .move (.t 8)⟩,
       ⟨(some 9), none, .move (.t 17)⟩])
     (.block 2 (.loop (.seq (.seq (.draw [⟨true, [9], [], ⟨(some 18), none, .move (.t 9)⟩⟩,
         ⟨true, [1], [], ⟨(some 19), none, .move (.t 1)⟩⟩,
         ⟨true, [18, 19], [], ⟨(some 20), none, .bin .gtr (.t 18) (.t 19)⟩⟩,
         ⟨true, [20], [], ⟨(some 21), none, .move (.t 20)⟩⟩,
         ⟨false, [3, 21], [], ⟨(some 22), (some (21, true)), .move (.t 3)⟩⟩,
         ⟨false, [0, 21], [], ⟨(some 23), (some (21, true)), .move (.t 0)⟩⟩,
         ⟨false, [9, 21], [], ⟨(some 24), (some (21, true)), .move (.t 9)⟩⟩,
         ⟨false, [23, 24, 21], [], ⟨(some 25), (some (21, true)), .iaddrS 7 (.t 23) (.t 24)⟩⟩,
         ⟨false, [25, 21], [], ⟨(some 26), (some (21, true)), .load (some 7) (.t 25)⟩⟩,
         ⟨false, [0, 21], [], ⟨(some 27), (some (21, true)), .move (.t 0)⟩⟩,
         ⟨false, [9, 21], [], ⟨(some 28), (some (21, true)), .move (.t 9)⟩⟩,
         ⟨false, [28, 21], [], ⟨(some 29), (some (21, true)), .bin .sub (.t 28) (.c (.sc (.int .i64 (1))))⟩⟩,
         ⟨false, [27, 29, 21], [], ⟨(some 30), (some (21, true)), .iaddrS 7 (.t 27) (.t 29)⟩⟩,
         ⟨false, [30, 21], [], ⟨(some 31), (some (21, true)), .load (some 7) (.t 30)⟩⟩]
         [⟨(some 32), (some (21, true)), .call (.t 22) [(.t 26), (.t 31)]⟩,
         ⟨(some 33), (some (21, true)), .bin .lss (.t 32) (.c (.sc (.int .i64 (0))))⟩,
         ⟨(some 34), none, .pick (.t 21) (.t 33) (.c (.sc (.bool false)))⟩])
       (.cond (.t 34)
        (.skip)
        (.exit 2)))
       (.seq (.block 3 (.draw [⟨false, [0], [], ⟨(some 37), none, .move (.t 0)⟩⟩,
          ⟨false, [9], [], ⟨(some 38), none, .move (.t 9)⟩⟩,
          ⟨false, [0], [], ⟨(some 39), none, .move (.t 0)⟩⟩,
          ⟨false, [9], [], ⟨(some 40), none, .move (.t 9)⟩⟩,
          ⟨false, [40], [], ⟨(some 41), none, .bin .sub (.t 40) (.c (.sc (.int .i64 (1))))⟩⟩,
          ⟨false, [0], [], ⟨(some 42), none, .move (.t 0)⟩⟩,
          ⟨false, [9], [], ⟨(some 43), none, .move (.t 9)⟩⟩,
          ⟨false, [43], [], ⟨(some 44), none, .bin .sub (.t 43) (.c (.sc (.int .i64 (1))))⟩⟩,
          ⟨false, [42, 44], [], ⟨(some 45), none, .iaddrS 7 (.t 42) (.t 44)⟩⟩,
          ⟨false, [45], [], ⟨(some 46), none, .load (some 7) (.t 45)⟩⟩,
          ⟨false, [0], [], ⟨(some 47), none, .move (.t 0)⟩⟩,
          ⟨false, [9], [], ⟨(some 48), none, .move (.t 9)⟩⟩,
          ⟨false, [47, 48], [], ⟨(some 49), none, .iaddrS 7 (.t 47) (.t 48)⟩⟩,
          ⟨false, [49], [], ⟨(some 50), none, .load (some 7) (.t 49)⟩⟩,
          ⟨true, [37, 38], [], ⟨(some 51), none, .iaddrS 7 (.t 37) (.t 38)⟩⟩,
          ⟨true, [51, 46], [], ⟨none, none, .store 7 (.t 51) (.t 46)⟩⟩]
          [⟨(some 52), none, .iaddrS 7 (.t 39) (.t 41)⟩,
          ⟨none, none, .store 7 (.t 52) (.t 50)⟩]))
       (.ops [⟨(some 35), none, .move (.t 9)⟩,
         ⟨(some 36), none, .bin .sub (.t 35) (.c (.sc (.int .i64 (1))))⟩,
         ⟨(some 9), none, .move (.t 36)⟩])))))))
    (.ops [⟨(some 15), none, .move (.t 8)⟩,
      ⟨(some 16), none, .bin .add (.t 15) (.c (.sc (.int .i64 (1))))⟩,
      ⟨(some 8), none, .move (.t 16)⟩]))))),
  []⟩
theorem ok229 : EntryOk Tryz.prog 229 af229 := ⟨Tryz.f229, _, Tryz.func229, by decide, rfl, by kernel_rfl, by kernel_rfl, rfl⟩
/-- slices.ContainsFunc[[]byte,byte] -/
noncomputable def af253 : AF := ⟨9, .seq (.ops [⟨(some 4), none, .move (.c (.sc (.bool false)))⟩])
  (.seq (.ops [⟨(some 5), none, .move (.t 0)⟩,
    ⟨(some 6), none, .move (.t 1)⟩,
    ⟨(some 7), none, .call (.c (.fn (.func 321) [] [])) [(.t 5), (.t 6)]⟩,
    ⟨(some 8), none, .bin .geq (.t 7) (.c (.sc (.int .i64 (0))))⟩,
    ⟨(some 4), none, .move (.t 8)⟩])
  (.ret)),
  [.t 4]⟩
theorem ok253 : EntryOk Tryz.prog 253 af253 := ⟨Tryz.f253, _, Tryz.func253, by decide, rfl, by kernel_rfl, by kernel_rfl, rfl⟩
/-- (*hemiola/check.checker).filled$1$1 -/
noncomputable def af257 : AF := ⟨6, .seq (.ops [⟨(some 1), none, .box (.t 0)⟩,
    ⟨(some 2), none, .move (.c (.sc (.bool false)))⟩])
  (.seq (.ops [⟨(some 3), none, .load (some 13) (.t 1)⟩,
    ⟨(some 4), none, .call (.c (.fn (.func 181) [] [])) [(.t 3)]⟩,
    ⟨(some 5), none, .bin .neq (.t 4) (.c (.sc (.int .i64 (0))))⟩,
    ⟨(some 2), none, .move (.t 5)⟩])
  (.ret)),
  [.t 2]⟩
theorem ok257 : EntryOk Tryz.prog 257 af257 := ⟨Tryz.f257, _, Tryz.func257, by decide, rfl, by kernel_rfl, by kernel_rfl, rfl⟩
/-- (*hemiola/check.checker).filled$1$2$1 -/
noncomputable def af261 : AF := ⟨18, .seq (.ops [⟨(some 4), none, .box (.t 0)⟩,
    ⟨(some 5), none, .move (.c (.sc (.bool false)))⟩])
  (.seq (.draw [⟨false, [4], [], ⟨(some 6), none, .faddr 0 (.t 4)⟩⟩,
    ⟨false, [6], [], ⟨(some 7), none, .load none (.t 6)⟩⟩,
    ⟨false, [1], [], ⟨(some 8), none, .load none (.t 1)⟩⟩,
    ⟨true, [7, 8], [], ⟨(some 9), none, .call (.c (.fn (.func 262) [] [])) [(.t 7), (.t 8)]⟩⟩,
    ⟨true, [9], [], ⟨(some 10), none, .un .not (.t 9)⟩⟩,
    ⟨true, [10], [], ⟨(some 11), none, .move (.t 10)⟩⟩,
    ⟨false, [2, 11], [9], ⟨(some 12), (some (11, true)), .load none (.t 2)⟩⟩,
    ⟨false, [4, 11], [], ⟨(some 13), (some (11, true)), .load (some 2) (.t 4)⟩⟩,
    ⟨false, [3, 11], [], ⟨(some 14), (some (11, true)), .load none (.t 3)⟩⟩,
    ⟨true, [13, 14, 11], [], ⟨(some 15), (some (11, true)), .call (.c (.fn (.func 263) [] [])) [(.t 13), (.t 14)]⟩⟩]
    [⟨(some 16), (some (11, true)), .call (.t 12) [(.t 15)]⟩,
    ⟨(some 17), none, .pick (.t 11) (.t 16) (.c (.sc (.bool false)))⟩,
    ⟨(some 5), none, .move (.t 17)⟩])
  (.ret)),
  [.t 5]⟩
theorem ok261 : EntryOk Tryz.prog 261 af261 := ⟨Tryz.f261, _, Tryz.func261, by decide, rfl, by kernel_rfl, by kernel_rfl, rfl⟩
/-- hemiola/event.within -/
noncomputable def af265 : AF := ⟨12, .seq (.ops [⟨(some 4), none, .move (.c (.sc (.int .i64 (0))))⟩])
  (.seq (.seq (.ops [⟨(some 5), none, .move (.t 0)⟩,
    ⟨(some 6), none, .bin .lss (.t 5) (.c (.sc (.int .i64 (0))))⟩,
    ⟨(some 7), none, .move (.t 6)⟩,
    ⟨(some 8), (some (7, false)), .move (.t 0)⟩,
    ⟨(some 9), (some (7, false)), .move (.t 1)⟩,
    ⟨(some 10), (some (7, false)), .bin .gtr (.t 8) (.t 9)⟩,
    ⟨(some 11), none, .pick (.t 7) (.c (.sc (.bool true))) (.t 10)⟩])
  (.cond (.t 11)
   (.seq (.ops [⟨(some 4), none, .move (.c (.sc (.int .i64 (2))))⟩])
   (.ret))
   (.skip)))
  (.seq (.ops [⟨(some 4), none, .move (.c (.sc (.int .i64 (0))))⟩])
  (.ret))),
  [.t 4]⟩
theorem ok265 : EntryOk Tryz.prog 265 af265 := ⟨Tryz.f265, _, Tryz.func265, by decide, rfl, by kernel_rfl, by kernel_rfl, rfl⟩
/-- hemiola/duration.Check -/
noncomputable def af269 : AF := ⟨21, .seq (.ops [⟨(some 1), none, .box (.t 0)⟩,
    ⟨(some 2), none, .move (.c (.sc (.int .i64 (0))))⟩])
  (.seq (.seq (.ops [⟨(some 3), none, .faddr 0 (.t 1)⟩,
    ⟨(some 4), none, .load none (.t 3)⟩,
    ⟨(some 5), none, .bin .lss (.t 4) (.c (.sc (.int .i64 (-1))))⟩,
    ⟨(some 6), none, .move (.t 5)⟩,
    ⟨(some 7), (some (6, false)), .faddr 0 (.t 1)⟩,
    ⟨(some 8), (some (6, false)), .load none (.t 7)⟩,
    ⟨(some 9), (some (6, false)), .bin .gtr (.t 8) (.c (.sc (.int .i64 (8))))⟩,
    ⟨(some 10), none, .pick (.t 6) (.c (.sc (.bool true))) (.t 9)⟩,
    ⟨(some 11), none, .move (.t 10)⟩,
    ⟨(some 12), (some (11, false)), .faddr 1 (.t 1)⟩,
    ⟨(some 13), (some (11, false)), .load none (.t 12)⟩,
    ⟨(some 14), (some (11, false)), .bin .lss (.t 13) (.c (.sc (.int .i64 (0))))⟩,
    ⟨(some 15), none, .pick (.t 11) (.c (.sc (.bool true))) (.t 14)⟩,
    ⟨(some 16), none, .move (.t 15)⟩,
    ⟨(some 17), (some (16, false)), .faddr 1 (.t 1)⟩,
    ⟨(some 18), (some (16, false)), .load none (.t 17)⟩,
    ⟨(some 19), (some (16, false)), .bin .gtr (.t 18) (.c (.sc (.int .i64 (3))))⟩,
    ⟨(some 20), none, .pick (.t 16) (.c (.sc (.bool true))) (.t 19)⟩])
  (.cond (.t 20)
   (.seq (.ops [⟨(some 2), none, .move (.c (.sc (.int .i64 (17))))⟩])
   (.ret))
   (.skip)))
  (.seq (.ops [⟨(some 2), none, .move (.c (.sc (.int .i64 (0))))⟩])
  (.ret))),
  [.t 2]⟩
theorem ok269 : EntryOk Tryz.prog 269 af269 := ⟨Tryz.f269, _, Tryz.func269, by decide, rfl, by kernel_rfl, by kernel_rfl, rfl⟩
/-- slices.IndexFunc[[]hemiola/api.Grace,hemiola/api.Grace] -/
noncomputable def af273 : AF := ⟨19, .seq (.ops [⟨(some 4), none, .move (.c (.sc (.int .i64 (0))))⟩])
  (.seq (.seq (.ops [⟨(some 6), none, .move (.t 0)⟩,
    ⟨(some 7), none, .len (.t 6)⟩,
    ⟨(some 8), none, .move (.c (.sc (.int .i64 (0))))⟩])
  (.block 0 (.loop (.seq (.ops [⟨(some 9), none, .bin .lss (.t 8) (.t 7)⟩])
    (.seq (.cond (.t 9)
     (.skip)
     (.exit 0))
    (.seq (.block 1 (.seq (.ops [⟨(some 10), none, .move (.t 8)⟩,
       ⟨(some 5), none, .move (.t 10)⟩])
     (.seq (.ops [⟨(some 11), none, .move (.t 1)⟩,
       ⟨(some 12), none, .move (.t 0)⟩,
       ⟨(some 13), none, .move (.t 5)⟩,
       ⟨(some 14), none, .iaddrS 5 (.t 12) (.t 13)⟩,
       ⟨(some 15), none, .load (some 5) (.t 14)⟩,
       ⟨(some 16), none, .call (.t 11) [(.t 15)]⟩])
     (.cond (.t 16)
      (.seq (.ops [⟨(some 17), none, .move (.t 5)⟩,
        ⟨(some 4), none, .move (.t 17)⟩])
      (.ret))
      (.skip)))))
    (.ops [⟨(some 18), none, .bin .add (.t 8) (.c (.sc (.int .i64 (1))))⟩,
      ⟨(some 8), none, .move (.t 18)⟩])))))))
  (.seq (.ops [⟨(some 4), none, .move (.c (.sc (.int .i64 (-1))))⟩])
  (.ret))),
  [.t 4]⟩
theorem ok273 : EntryOk Tryz.prog 273 af273 := ⟨Tryz.f273, _, Tryz.func273, by decide, rfl, by kernel_rfl, by kernel_rfl, rfl⟩
/-- hemiola/check.absent -/
noncomputable def af280 : AF := ⟨19, .seq (.ops [⟨(some 2), none, .box (.t 0)⟩,
    ⟨(some 4), none, .move (.c (.sc (.bool false)))⟩])
  (.seq (.ops [⟨(some 5), none, .move (.t 1)⟩,
    ⟨(some 6), none, .faddr 10 (.t 2)⟩,
    ⟨(some 7), none, .load none (.t 6)⟩,
    ⟨(some 8), none, .len (.t 7)⟩,
    ⟨(some 9), none, .bin .geq (.t 5) (.t 8)⟩,
    ⟨(some 10), none, .move (.t 9)⟩,
    ⟨(some 11), (some (10, false)), .faddr 10 (.t 2)⟩,
    ⟨(some 12), (some (10, false)), .load none (.t 11)⟩,
    ⟨(some 13), (some (10, false)), .move (.t 1)⟩,
    ⟨(some 14), (some (10, false)), .iaddrS 2 (.t 12) (.t 13)⟩,
    ⟨(some 15), (some (10, false)), .load (some 2) (.t 14)⟩,
    ⟨(some 16), (some (10, false)), .build [(.sc (.string ⟨#[]⟩)), (.sc (.int .i64 (0)))] []⟩,
    ⟨(some 17), (some (10, false)), .eqC [.s, .i] false (.t 15) (.t 16)⟩,
    ⟨(some 18), none, .pick (.t 10) (.c (.sc (.bool true))) (.t 17)⟩,
    ⟨(some 4), none, .move (.t 18)⟩])
  (.ret)),
  [.t 4]⟩
theorem ok280 : EntryOk Tryz.prog 280 af280 := ⟨Tryz.f280, _, Tryz.func280, by decide, rfl, by kernel_rfl, by kernel_rfl, rfl⟩
/-- slices.stableCmpFunc[hemiola/api.Note] -/
noncomputable def af298 : AF := ⟨63, .seq (.ops [⟨(some 6), none, .move (.c (.sc (.int .i64 (20))))⟩])
  (.seq (.ops [⟨(some 10), none, .move (.t 6)⟩,
    ⟨(some 7), none, .move (.c (.sc (.int .i64 (0))))⟩,
    ⟨(some 8), none, .move (.t 10)⟩])
  (.seq (.block 0 (.loop (.seq (.seq (.ops [⟨(some 11), none, .move (.t 8)⟩,
      ⟨(some 12), none, .move (.t 1)⟩,
      ⟨(some 13), none, .bin .leq (.t 11) (.t 12)⟩])
    (.cond (.t 13)
     (.skip)
     (.exit 0)))
    (.block 1 (.seq (.ops [⟨(some 14), none, .move (.t 0)⟩,
       ⟨(some 15), none, .move (.t 7)⟩,
       ⟨(some 16), none, .move (.t 8)⟩,
       ⟨(some 17), none, .move (.t 2)⟩,
       ⟨(some 18), none, .call (.c (.fn (.func 344) [] [])) [(.t 14), (.t 15), (.t 16), (.t 17)]⟩])
     (.seq (.ops [⟨(some 19), none, .move (.t 8)⟩,
       ⟨(some 7), none, .move (.t 19)⟩])
     (.ops [⟨(some 20), none, .move (.t 8)⟩,
       ⟨(some 21), none, .move (.t 6)⟩,
       ⟨(some 22), none, .bin .add (.t 20) (.t 21)⟩,
       ⟨(some 8), none, .move (.t 22)⟩])))))))
  (.seq (.ops [⟨(some 23), none, .move (.t 0)⟩,
    ⟨(some 24), none, .move (.t 7)⟩,
    ⟨(some 25), none, .move (.t 1)⟩,
    ⟨(some 26), none, .move (.t 2)⟩,
    ⟨(some 27), none, .call (.c (.fn (.func 344) [] [])) [(.t 23), (.t 24), (.t 25), (.t 26)]⟩])
  (.block 2 (.loop (.seq (.seq (.ops [⟨(some 28), none, .move (.t 6)⟩,
      ⟨(some 29), none, .move (.t 1)⟩,
      ⟨(some 30), none, .bin .lss (.t 28) (.t 29)⟩])
    (.cond (.t 30)
     (.skip)
     (.exit 2)))
    (.block 3 (.seq (.ops [⟨(some 31), none, .move (.t 6)⟩,
       ⟨(some 32), none, .bin .mul (.c (.sc (.int .i64 (2)))) (.t 31)⟩,
       ⟨(some 7), none, .move (.c (.sc (.int .i64 (0))))⟩,
       ⟨(some 8), none, .move (.t 32)⟩])
     (.seq (.block 4 (.loop (.seq (.seq (.ops [⟨(some 33), none, .move (.t 8)⟩,
         ⟨(some 34), none, .move (.t 1)⟩,
         ⟨(some 35), none, .bin .leq (.t 33) (.t 34)⟩])
       (.cond (.t 35)
        (.skip)
        (.exit 4)))
       (.block 5 (.seq (.ops [⟨(some 36), none, .move (.t 0)⟩,
          ⟨(some 37), none, .move (.t 7)⟩,
          ⟨(some 38), none, .move (.t 7)⟩,
          ⟨(some 39), none, .move (.t 6)⟩,
          ⟨(some 40), none, .bin .add (.t 38) (.t 39)⟩,
          ⟨(some 41), none, .move (.t 8)⟩,
          ⟨(some 42), none, .move (.t 2)⟩,
          ⟨(some 43), none, .call (.c (.fn (.func 345) [] [])) [(.t 36), (.t 37), (.t 40), (.t 41), (.t 42)]⟩])
        (.seq (.ops [⟨(some 44), none, .move (.t 8)⟩,
          ⟨(some 7), none, .move (.t 44)⟩])
        (.ops [⟨(some 45), none, .move (.t 8)⟩,
          ⟨(some 46), none, .move (.t 6)⟩,
          ⟨(some 47), none, .bin .mul (.c (.sc (.int .i64 (2)))) (.t 46)⟩,
          ⟨(some 48), none, .bin .add (.t 45) (.t 47)⟩,
          ⟨(some 8), none, .move (.t 48)⟩])))))))
     (.seq (.seq (.ops [⟨(some 49), none, .move (.t 7)⟩,
       ⟨(some 50), none, .move (.t 6)⟩,
       ⟨(some 51), none, .bin .add (.t 49) (.t 50)⟩,
       ⟨(some 9), none, .move (.t 51)⟩])
     (.seq (.ops [⟨(some 52), none, .move (.t 9)⟩,
       ⟨(some 53), none, .move (.t 1)⟩,
       ⟨(some 54), none, .bin .lss (.t 52) (.t 53)⟩])
     (.cond (.t 54)
      (.ops [⟨(some 55), none, .move (.t 0)⟩,
        ⟨(some 56), none, .move (.t 7)⟩,
        ⟨(some 57), none, .move (.t 9)⟩,
        ⟨(some 58), none, .move (.t 1)⟩,
        ⟨(some 59), none, .move (.t 2)⟩,
        ⟨(some 60), none, .call (.c (.fn (.func 345) [] [])) [(.t 55), (.t 56), (.t 57), (.t 58), (.t 59)]⟩])
      (.skip))))
     (.ops [⟨(some 61), none, .move (.t 6)⟩,
       ⟨(some 62), none, .bin .mul (.t 61) (.c (.sc (.int .i64 (2))))⟩,
       ⟨(some 6), none, .move (.t 62)⟩]))))))))))),
  []⟩
theorem ok298 : EntryOk Tryz.prog 298 af298 := ⟨Tryz.f298, _, Tryz.func298, by decide, rfl, by kernel_rfl, by kernel_rfl, rfl⟩
/-- hemiola/metre.grouped -/
noncomputable def af302 : AF := ⟨50, .seq (.ops [⟨(some 1), none, .box (.t 0)⟩,
    ⟨(some 2), none, .move (.c (.sc (.bool false)))⟩])
  (.seq (.seq (.ops [⟨(some 7), none, .faddr 2 (.t 1)⟩,
    ⟨(some 8), none, .load (some 6) (.t 7)⟩,
    ⟨(some 9), none, .build [(.sc (.int .i64 (0))), (.sc (.int .i64 (0))), (.sc (.int .i64 (0))), (.sc (.int .i64 (0))), (.sc (.int .i64 (0))), (.sc (.int .i64 (0)))] []⟩,
    ⟨(some 10), none, .eqC [.i, .i, .i, .i, .i, .i] false (.t 8) (.t 9)⟩])
  (.cond (.t 10)
   (.seq (.ops [⟨(some 2), none, .move (.c (.sc (.bool true)))⟩])
   (.ret))
   (.skip)))
  (.seq (.ops [⟨(some 3), none, .move (.c (.sc (.int .i64 (0))))⟩,
    ⟨(some 4), none, .move (.c (.sc (.int .i64 (0))))⟩])
  (.seq (.seq (.ops [⟨(some 11), none, .faddr 2 (.t 1)⟩,
    ⟨(some 12), none, .load (some 6) (.t 11)⟩,
    ⟨(some 13), none, .move (.c (.sc (.int .i64 (0))))⟩])
  (.block 0 (.loop (.seq (.ops [⟨(some 14), none, .bin .lss (.t 13) (.c (.sc (.int .i64 (6))))⟩])
    (.seq (.cond (.t 14)
     (.skip)
     (.exit 0))
    (.seq (.block 1 (.seq (.ops [⟨(some 15), none, .move (.t 13)⟩,
       ⟨(some 16), none, .idxA 1 6 none (.t 12) (.t 13)⟩,
       ⟨(some 5), none, .move (.t 15)⟩,
       ⟨(some 6), none, .move (.t 16)⟩])
     (.block 2 (.seq (.ops [⟨(some 18), none, .move (.t 6)⟩,
        ⟨(some 19), none, .bin .lss (.t 18) (.c (.sc (.int .i64 (0))))⟩,
        ⟨(some 20), none, .move (.t 19)⟩,
        ⟨(some 21), (some (20, false)), .move (.t 6)⟩,
        ⟨(some 22), (some (20, false)), .bin .gtr (.t 21) (.c (.sc (.int .i64 (64))))⟩,
        ⟨(some 23), none, .pick (.t 20) (.c (.sc (.bool true))) (.t 22)⟩,
        ⟨(some 24), none, .move (.t 23)⟩,
        ⟨(some 25), (some (24, false)), .move (.t 6)⟩,
        ⟨(some 26), (some (24, false)), .bin .gtr (.t 25) (.c (.sc (.int .i64 (0))))⟩,
        ⟨(some 27), (some (24, false)), .move (.t 26)⟩,
        ⟨(some 28), (some (27, true)), .move (.t 5)⟩,
        ⟨(some 29), (some (27, true)), .move (.t 4)⟩,
        ⟨(some 30), (some (27, true)), .bin .neq (.t 28) (.t 29)⟩,
        ⟨(some 31), (some (24, false)), .pick (.t 27) (.t 30) (.c (.sc (.bool false)))⟩,
        ⟨(some 32), none, .pick (.t 24) (.c (.sc (.bool true))) (.t 31)⟩,
        ⟨(some 17), none, .move (.t 32)⟩])
      (.cond (.t 17)
       (.seq (.ops [⟨(some 2), none, .move (.c (.sc (.bool false)))⟩])
       (.ret))
       (.seq (.ops [⟨(some 34), none, .move (.t 6)⟩,
         ⟨(some 35), none, .bin .gtr (.t 34) (.c (.sc (.int .i64 (0))))⟩,
         ⟨(some 33), none, .move (.t 35)⟩])
       (.cond (.t 33)
        (.ops [⟨(some 36), none, .move (.t 3)⟩,
          ⟨(some 37), none, .move (.t 6)⟩,
          ⟨(some 38), none, .bin .add (.t 36) (.t 37)⟩,
          ⟨(some 39), none, .move (.t 4)⟩,
          ⟨(some 40), none, .bin .add (.t 39) (.c (.sc (.int .i64 (1))))⟩,
          ⟨(some 3), none, .move (.t 38)⟩,
          ⟨(some 4), none, .move (.t 40)⟩])
        (.skip))))))))
    (.ops [⟨(some 41), none, .bin .add (.t 13) (.c (.sc (.int .i64 (1))))⟩,
      ⟨(some 13), none, .move (.t 41)⟩])))))))
  (.seq (.ops [⟨(some 42), none, .move (.t 3)⟩,
    ⟨(some 43), none, .faddr 0 (.t 1)⟩,
    ⟨(some 44), none, .load none (.t 43)⟩,
    ⟨(some 45), none, .bin .eql (.t 42) (.t 44)⟩,
    ⟨(some 46), none, .move (.t 45)⟩,
    ⟨(some 47), (some (46, true)), .move (.t 4)⟩,
    ⟨(some 48), (some (46, true)), .bin .geq (.t 47) (.c (.sc (.int .i64 (2))))⟩,
    ⟨(some 49), none, .pick (.t 46) (.t 48) (.c (.sc (.bool false)))⟩,
    ⟨(some 2), none, .move (.t 49)⟩])
  (.ret))))),
  [.t 2]⟩
theorem ok302 : EntryOk Tryz.prog 302 af302 := ⟨Tryz.f302, _, Tryz.func302, by decide, rfl, by kernel_rfl, by kernel_rfl, rfl⟩
/-- (*hemiola/tempo.Map).Ticks -/
noncomputable def af306 : AF := ⟨6, .seq (.ops [⟨(some 2), none, .move (.c (.sc (.int .i64 (0))))⟩])
  (.seq (.ops [⟨(some 3), none, .move (.t 0)⟩,
    ⟨(some 4), none, .call (.c (.fn (.func 351) [] [])) [(.t 3)]⟩,
    ⟨(some 5), none, .field 1 none (.t 4)⟩,
    ⟨(some 2), none, .move (.t 5)⟩])
  (.ret)),
  [.t 2]⟩
theorem ok306 : EntryOk Tryz.prog 306 af306 := ⟨Tryz.f306, _, Tryz.func306, by decide, rfl, by kernel_rfl, by kernel_rfl, rfl⟩
/-- slices.IndexFunc[[]byte,byte] -/
noncomputable def af321 : AF := ⟨19, .seq (.ops [⟨(some 4), none, .move (.c (.sc (.int .i64 (0))))⟩])
  (.seq (.seq (.ops [⟨(some 6), none, .move (.t 0)⟩,
    ⟨(some 7), none, .len (.t 6)⟩,
    ⟨(some 8), none, .move (.c (.sc (.int .i64 (0))))⟩])
  (.block 0 (.loop (.seq (.ops [⟨(some 9), none, .bin .lss (.t 8) (.t 7)⟩])
    (.seq (.cond (.t 9)
     (.skip)
     (.exit 0))
    (.seq (.block 1 (.seq (.ops [⟨(some 10), none, .move (.t 8)⟩,
       ⟨(some 5), none, .move (.t 10)⟩])
     (.seq (.ops [⟨(some 11), none, .move (.t 1)⟩,
       ⟨(some 12), none, .move (.t 0)⟩,
       ⟨(some 13), none, .move (.t 5)⟩,
       ⟨(some 14), none, .iaddrS 1 (.t 12) (.t 13)⟩,
       ⟨(some 15), none, .load none (.t 14)⟩,
       ⟨(some 16), none, .call (.t 11) [(.t 15)]⟩])
     (.cond (.t 16)
      (.seq (.ops [⟨(some 17), none, .move (.t 5)⟩,
        ⟨(some 4), none, .move (.t 17)⟩])
      (.ret))
      (.skip)))))
    (.ops [⟨(some 18), none, .bin .add (.t 8) (.c (.sc (.int .i64 (1))))⟩,
      ⟨(some 8), none, .move (.t 18)⟩])))))))
  (.seq (.ops [⟨(some 4), none, .move (.c (.sc (.int .i64 (-1))))⟩])
  (.ret))),
  [.t 4]⟩
theorem ok321 : EntryOk Tryz.prog 321 af321 := ⟨Tryz.f321, _, Tryz.func321, by decide, rfl, by kernel_rfl, by kernel_rfl, rfl⟩
/-- slices.IndexFunc[[]hemiola/api.Voice,hemiola/api.Voice] -/
noncomputable def af325 : AF := ⟨19, .seq (.ops [⟨(some 4), none, .move (.c (.sc (.int .i64 (0))))⟩])
  (.seq (.seq (.ops [⟨(some 6), none, .move (.t 0)⟩,
    ⟨(some 7), none, .len (.t 6)⟩,
    ⟨(some 8), none, .move (.c (.sc (.int .i64 (0))))⟩])
  (.block 0 (.loop (.seq (.ops [⟨(some 9), none, .bin .lss (.t 8) (.t 7)⟩])
    (.seq (.cond (.t 9)
     (.skip)
     (.exit 0))
    (.seq (.block 1 (.seq (.ops [⟨(some 10), none, .move (.t 8)⟩,
       ⟨(some 5), none, .move (.t 10)⟩])
     (.seq (.ops [⟨(some 11), none, .move (.t 1)⟩,
       ⟨(some 12), none, .move (.t 0)⟩,
       ⟨(some 13), none, .move (.t 5)⟩,
       ⟨(some 14), none, .iaddrS 2 (.t 12) (.t 13)⟩,
       ⟨(some 15), none, .load (some 2) (.t 14)⟩,
       ⟨(some 16), none, .call (.t 11) [(.t 15)]⟩])
     (.cond (.t 16)
      (.seq (.ops [⟨(some 17), none, .move (.t 5)⟩,
        ⟨(some 4), none, .move (.t 17)⟩])
      (.ret))
      (.skip)))))
    (.ops [⟨(some 18), none, .bin .add (.t 8) (.c (.sc (.int .i64 (1))))⟩,
      ⟨(some 8), none, .move (.t 18)⟩])))))))
  (.seq (.ops [⟨(some 4), none, .move (.c (.sc (.int .i64 (-1))))⟩])
  (.ret))),
  [.t 4]⟩
theorem ok325 : EntryOk Tryz.prog 325 af325 := ⟨Tryz.f325, _, Tryz.func325, by decide, rfl, by kernel_rfl, by kernel_rfl, rfl⟩
/-- slices.Equal[[]hemiola/api.Syllable,hemiola/api.Syllable] -/
noncomputable def af329 : AF := ⟨26, .seq (.ops [⟨(some 4), none, .move (.c (.sc (.bool false)))⟩])
  (.seq (.seq (.ops [⟨(some 6), none, .move (.t 0)⟩,
    ⟨(some 7), none, .len (.t 6)⟩,
    ⟨(some 8), none, .move (.t 1)⟩,
    ⟨(some 9), none, .len (.t 8)⟩,
    ⟨(some 10), none, .bin .neq (.t 7) (.t 9)⟩])
  (.cond (.t 10)
   (.seq (.ops [⟨(some 4), none, .move (.c (.sc (.bool false)))⟩])
   (.ret))
   (.skip)))
  (.seq (.seq (.ops [⟨(some 11), none, .move (.t 0)⟩,
    ⟨(some 12), none, .len (.t 11)⟩,
    ⟨(some 13), none, .move (.c (.sc (.int .i64 (0))))⟩])
  (.block 0 (.loop (.seq (.ops [⟨(some 14), none, .bin .lss (.t 13) (.t 12)⟩])
    (.seq (.cond (.t 14)
     (.skip)
     (.exit 0))
    (.seq (.block 1 (.seq (.ops [⟨(some 15), none, .move (.t 13)⟩,
       ⟨(some 5), none, .move (.t 15)⟩])
     (.seq (.draw [⟨false, [0], [], ⟨(some 16), none, .move (.t 0)⟩⟩,
       ⟨false, [5], [], ⟨(some 17), none, .move (.t 5)⟩⟩,
       ⟨false, [16, 17], [], ⟨(some 18), none, .iaddrS 2 (.t 16) (.t 17)⟩⟩,
       ⟨false, [18], [], ⟨(some 19), none, .load (some 2) (.t 18)⟩⟩,
       ⟨false, [1], [], ⟨(some 20), none, .move (.t 1)⟩⟩,
       ⟨false, [5], [], ⟨(some 21), none, .move (.t 5)⟩⟩,
       ⟨false, [20, 21], [], ⟨(some 22), none, .iaddrS 2 (.t 20) (.t 21)⟩⟩,
       ⟨false, [22], [], ⟨(some 23), none, .load (some 2) (.t 22)⟩⟩]
       [⟨(some 24), none, .eqC [.s, .i] true (.t 19) (.t 23)⟩])
     (.cond (.t 24)
      (.seq (.ops [⟨(some 4), none, .move (.c (.sc (.bool false)))⟩])
      (.ret))
      (.skip)))))
    (.ops [⟨(some 25), none, .bin .add (.t 13) (.c (.sc (.int .i64 (1))))⟩,
      ⟨(some 13), none, .move (.t 25)⟩])))))))
  (.seq (.ops [⟨(some 4), none, .move (.c (.sc (.bool true)))⟩])
  (.ret)))),
  [.t 4]⟩
theorem ok329 : EntryOk Tryz.prog 329 af329 := ⟨Tryz.f329, _, Tryz.func329, by decide, rfl, by kernel_rfl, by kernel_rfl, rfl⟩
/-- hemiola/tuplet.Lengths -/
noncomputable def af349 : AF := ⟨45, .seq (.ops [⟨(some 4), none, .move (.c (.sl true .full 0 []))⟩,
    ⟨(some 5), none, .move (.c (.sc (.int .i64 (0))))⟩])
  (.seq (.seq (.ops [⟨(some 12), none, .move (.t 0)⟩,
    ⟨(some 13), none, .move (.t 1)⟩,
    ⟨(some 14), none, .len (.t 13)⟩,
    ⟨(some 15), none, .call (.c (.fn (.func 359) [] [])) [(.t 12), (.t 14)]⟩,
    ⟨(some 6), none, .move (.t 15)⟩])
  (.seq (.ops [⟨(some 16), none, .move (.t 6)⟩,
    ⟨(some 17), none, .bin .neq (.t 16) (.c (.sc (.int .i64 (0))))⟩])
  (.cond (.t 17)
   (.seq (.ops [⟨(some 18), none, .move (.t 6)⟩,
     ⟨(some 4), none, .move (.c (.sl true .full 0 []))⟩,
     ⟨(some 5), none, .move (.t 18)⟩])
   (.ret))
   (.skip))))
  (.seq (.ops [⟨(some 19), none, .move (.t 1)⟩,
    ⟨(some 20), none, .len (.t 19)⟩,
    ⟨(some 21), none, .mkSl 1 8 [(.sc (.int .i64 (0)))] (.c (.sc (.int .i64 (0)))) (.t 20)⟩,
    ⟨(some 7), none, .move (.t 21)⟩])
  (.seq (.seq (.ops [⟨(some 22), none, .move (.t 1)⟩,
    ⟨(some 23), none, .len (.t 22)⟩,
    ⟨(some 24), none, .move (.c (.sc (.int .i64 (0))))⟩])
  (.block 0 (.loop (.seq (.ops [⟨(some 25), none, .bin .lss (.t 24) (.t 23)⟩])
    (.seq (.cond (.t 25)
     (.skip)
     (.exit 0))
    (.seq (.block 1 (.seq (.ops [⟨(some 26), none, .move (.t 24)⟩,
       ⟨(some 27), none, .iaddrS 1 (.t 22) (.t 24)⟩,
       ⟨(some 28), none, .load none (.t 27)⟩,
       ⟨(some 8), none, .move (.t 26)⟩,
       ⟨(some 9), none, .move (.t 28)⟩])
     (.seq (.ops [⟨(some 30), none, .move (.t 0)⟩,
       ⟨(some 31), none, .move (.t 8)⟩,
       ⟨(some 32), none, .move (.t 9)⟩,
       ⟨(some 33), none, .call (.c (.fn (.func 360) [] [])) [(.t 30), (.t 31), (.t 32)]⟩,
       ⟨(some 29), none, .move (.t 33)⟩,
       ⟨(some 34), none, .extract 0 (.t 29)⟩,
       ⟨(some 35), none, .extract 1 (.t 29)⟩,
       ⟨(some 10), none, .move (.t 34)⟩,
       ⟨(some 11), none, .move (.t 35)⟩])
     (.seq (.seq (.ops [⟨(some 36), none, .move (.t 11)⟩,
       ⟨(some 37), none, .bin .neq (.t 36) (.c (.sc (.int .i64 (0))))⟩])
     (.cond (.t 37)
      (.seq (.ops [⟨(some 38), none, .move (.t 11)⟩,
        ⟨(some 4), none, .move (.c (.sl true .full 0 []))⟩,
        ⟨(some 5), none, .move (.t 38)⟩])
      (.ret))
      (.skip)))
     (.ops [⟨(some 39), none, .move (.t 7)⟩,
       ⟨(some 40), none, .move (.t 10)⟩,
       ⟨(some 41), none, .buildSl 1 [(.t 40)]⟩,
       ⟨(some 42), none, .append 1 8 (.t 39) (.t 41)⟩,
       ⟨(some 7), none, .move (.t 42)⟩])))))
    (.ops [⟨(some 43), none, .bin .add (.t 24) (.c (.sc (.int .i64 (1))))⟩,
      ⟨(some 24), none, .move (.t 43)⟩])))))))
  (.seq (.ops [⟨(some 44), none, .move (.t 7)⟩,
    ⟨(some 4), none, .move (.t 44)⟩,
    ⟨(some 5), none, .move (.c (.sc (.int .i64 (0))))⟩])
  (.ret))))),
  [.t 4, .t 5]⟩
theorem ok349 : EntryOk Tryz.prog 349 af349 := ⟨Tryz.f349, _, Tryz.func349, by decide, rfl, by kernel_rfl, by kernel_rfl, rfl⟩
/-- hemiola/event.Written -/
noncomputable def af358 : AF := ⟨20, .seq (.ops [⟨(some 1), none, .box (.t 0)⟩,
    ⟨(some 2), none, .move (.c (.sc (.int .i64 (0))))⟩,
    ⟨(some 3), none, .move (.c (.sc (.int .i64 (0))))⟩])
  (.seq (.seq (.ops [⟨(some 5), none, .load (some 13) (.t 1)⟩,
    ⟨(some 6), none, .call (.c (.fn (.func 181) [] [])) [(.t 5)]⟩,
    ⟨(some 4), none, .move (.t 6)⟩])
  (.seq (.ops [⟨(some 7), none, .move (.t 4)⟩,
    ⟨(some 8), none, .bin .neq (.t 7) (.c (.sc (.int .i64 (0))))⟩,
    ⟨(some 9), none, .move (.t 8)⟩,
    ⟨(some 10), (some (9, false)), .faddr 2 (.t 1)⟩,
    ⟨(some 11), (some (9, false)), .load none (.t 10)⟩,
    ⟨(some 12), (some (9, false)), .bin .eql (.t 11) (.c (.sc (.int .i64 (3))))⟩,
    ⟨(some 13), none, .pick (.t 9) (.c (.sc (.bool true))) (.t 12)⟩])
  (.cond (.t 13)
   (.seq (.ops [⟨(some 14), none, .move (.t 4)⟩,
     ⟨(some 2), none, .move (.c (.sc (.int .i64 (0))))⟩,
     ⟨(some 3), none, .move (.t 14)⟩])
   (.ret))
   (.skip))))
  (.seq (.ops [⟨(some 15), none, .faddr 3 (.t 1)⟩,
    ⟨(some 16), none, .load (some 2) (.t 15)⟩,
    ⟨(some 17), none, .call (.c (.fn (.func 363) [] [])) [(.t 16)]⟩,
    ⟨(some 18), none, .extract 0 (.t 17)⟩,
    ⟨(some 19), none, .extract 1 (.t 17)⟩,
    ⟨(some 2), none, .move (.t 18)⟩,
    ⟨(some 3), none, .move (.t 19)⟩])
  (.ret))),
  [.t 2, .t 3]⟩
theorem ok358 : EntryOk Tryz.prog 358 af358 := ⟨Tryz.f358, _, Tryz.func358, by decide, rfl, by kernel_rfl, by kernel_rfl, rfl⟩
/-- hemiola/tuplet.product -/
noncomputable def af368 : AF := ⟨38, .seq (.ops [⟨(some 4), none, .move (.c (.sc (.int .i64 (0))))⟩,
    ⟨(some 5), none, .move (.c (.sc (.int .i64 (0))))⟩])
  (.seq (.ops [⟨(some 4), none, .move (.c (.sc (.int .i64 (1))))⟩,
    ⟨(some 5), none, .move (.c (.sc (.int .i64 (1))))⟩])
  (.seq (.seq (.ops [⟨(some 9), none, .move (.t 0)⟩,
    ⟨(some 10), none, .len (.t 9)⟩,
    ⟨(some 11), none, .move (.c (.sc (.int .i64 (0))))⟩])
  (.block 0 (.loop (.seq (.ops [⟨(some 12), none, .bin .lss (.t 11) (.t 10)⟩])
    (.seq (.cond (.t 12)
     (.skip)
     (.exit 0))
    (.seq (.block 1 (.seq (.ops [⟨(some 13), none, .iaddrS 4 (.t 9) (.t 11)⟩,
       ⟨(some 14), none, .load (some 4) (.t 13)⟩,
       ⟨(some 7), none, .alloc [(.sc (.int .i64 (0))), (.sc (.int .i64 (0))), (.sc (.int .i64 (0))), (.sc (.int .i64 (0)))]⟩,
       ⟨none, none, .store 4 (.t 7) (.t 14)⟩])
     (.seq (.ops [⟨(some 15), none, .load (some 4) (.t 7)⟩,
       ⟨(some 16), none, .move (.t 1)⟩,
       ⟨(some 17), none, .call (.c (.fn (.func 370) [] [])) [(.t 15), (.t 16)]⟩])
     (.cond (.t 17)
      (.seq (.draw [⟨false, [4], [], ⟨(some 18), none, .move (.t 4)⟩⟩,
        ⟨false, [7], [], ⟨(some 19), none, .faddr 3 (.t 7)⟩⟩,
        ⟨false, [19], [], ⟨(some 20), none, .load none (.t 19)⟩⟩,
        ⟨false, [18, 20], [], ⟨(some 21), none, .bin .mul (.t 18) (.t 20)⟩⟩,
        ⟨false, [5], [], ⟨(some 22), none, .move (.t 5)⟩⟩,
        ⟨false, [7], [], ⟨(some 23), none, .faddr 2 (.t 7)⟩⟩,
        ⟨false, [23], [], ⟨(some 24), none, .load none (.t 23)⟩⟩,
        ⟨false, [22, 24], [], ⟨(some 25), none, .bin .mul (.t 22) (.t 24)⟩⟩,
        ⟨false, [21], [], ⟨(some 4), none, .move (.t 21)⟩⟩]
        [⟨(some 5), none, .move (.t 25)⟩])
      (.seq (.ops [⟨(some 26), none, .move (.t 4)⟩,
        ⟨(some 27), none, .move (.t 5)⟩,
        ⟨(some 28), none, .call (.c (.fn (.func 371) [] [])) [(.t 26), (.t 27)]⟩,
        ⟨(some 8), none, .move (.t 28)⟩])
      (.draw [⟨true, [4], [], ⟨(some 29), none, .move (.t 4)⟩⟩,
        ⟨true, [8], [], ⟨(some 30), none, .move (.t 8)⟩⟩,
        ⟨true, [29, 30], [], ⟨(some 31), none, .bin .quo (.t 29) (.t 30)⟩⟩,
        ⟨true, [5], [], ⟨(some 32), none, .move (.t 5)⟩⟩,
        ⟨true, [8], [], ⟨(some 33), none, .move (.t 8)⟩⟩,
        ⟨true, [32, 33], [], ⟨(some 34), none, .bin .quo (.t 32) (.t 33)⟩⟩,
        ⟨true, [31], [], ⟨(some 4), none, .move (.t 31)⟩⟩]
        [⟨(some 5), none, .move (.t 34)⟩])))
      (.skip)))))
    (.ops [⟨(some 35), none, .bin .add (.t 11) (.c (.sc (.int .i64 (1))))⟩,
      ⟨(some 11), none, .move (.t 35)⟩])))))))
  (.seq (.ops [⟨(some 36), none, .move (.t 4)⟩,
    ⟨(some 37), none, .move (.t 5)⟩,
    ⟨(some 4), none, .move (.t 36)⟩,
    ⟨(some 5), none, .move (.t 37)⟩])
  (.ret)))),
  [.t 4, .t 5]⟩
theorem ok368 : EntryOk Tryz.prog 368 af368 := ⟨Tryz.f368, _, Tryz.func368, by decide, rfl, by kernel_rfl, by kernel_rfl, rfl⟩
end Go.Proofs.YtmbchdfgckmpoaaGreatDoor
