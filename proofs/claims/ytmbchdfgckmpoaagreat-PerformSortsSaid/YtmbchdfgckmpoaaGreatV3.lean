/- Resolved code, printed by a program. -/
import Derived.Test.YtmbchdfgckmpoaaGreatPE21
import Derived.Test.YtmbchdfgckmpoaaGreatProg
namespace Go.Proofs.YtmbchdfgckmpoaaGreat
open Go.PE

/-- hemiola/perform.Perform -/
noncomputable def af18 : AF := ⟨84, .seq (.ops [⟨(some 1), none, .box (.t 0)⟩,
    ⟨(some 2), none, .move (.c (.sl true .full 0 []))⟩,
    ⟨(some 3), none, .move (.c (.sc (.int .i64 (0))))⟩])
  (.seq (.seq (.ops [⟨(some 12), none, .load (some 6) (.t 1)⟩,
    ⟨(some 13), none, .call (.c (.fn (.func 29) [] [])) [(.t 12)]⟩,
    ⟨(some 14), none, .un .not (.t 13)⟩])
  (.cond (.t 14)
   (.seq (.ops [⟨(some 2), none, .move (.c (.sl true .full 0 []))⟩,
     ⟨(some 3), none, .move (.c (.sc (.int .i64 (24))))⟩])
   (.ret))
   (.skip)))
  (.seq (.ops [⟨(some 16), none, .load (some 6) (.t 1)⟩,
    ⟨(some 17), none, .call (.c (.fn (.func 30) [] [])) [(.t 16)]⟩,
    ⟨(some 15), none, .move (.t 17)⟩,
    ⟨(some 18), none, .extract 0 (.t 15)⟩,
    ⟨(some 19), none, .extract 1 (.t 15)⟩,
    ⟨(some 4), none, .move (.t 18)⟩,
    ⟨(some 5), none, .move (.t 19)⟩])
  (.seq (.seq (.ops [⟨(some 20), none, .move (.t 5)⟩,
    ⟨(some 21), none, .bin .neq (.t 20) (.c (.sc (.int .i64 (0))))⟩])
  (.cond (.t 21)
   (.seq (.ops [⟨(some 22), none, .move (.t 5)⟩,
     ⟨(some 2), none, .move (.c (.sl true .full 0 []))⟩,
     ⟨(some 3), none, .move (.t 22)⟩])
   (.ret))
   (.skip)))
  (.seq (.ops [⟨(some 24), none, .load (some 6) (.t 1)⟩,
    ⟨(some 25), none, .move (.t 4)⟩,
    ⟨(some 26), none, .call (.c (.fn (.func 31) [] [])) [(.t 24), (.t 25)]⟩,
    ⟨(some 23), none, .move (.t 26)⟩,
    ⟨(some 27), none, .extract 0 (.t 23)⟩,
    ⟨(some 28), none, .extract 1 (.t 23)⟩,
    ⟨(some 6), none, .move (.t 27)⟩,
    ⟨(some 5), none, .move (.t 28)⟩])
  (.seq (.seq (.ops [⟨(some 29), none, .move (.t 5)⟩,
    ⟨(some 30), none, .bin .neq (.t 29) (.c (.sc (.int .i64 (0))))⟩])
  (.cond (.t 30)
   (.seq (.ops [⟨(some 31), none, .move (.t 5)⟩,
     ⟨(some 2), none, .move (.c (.sl true .full 0 []))⟩,
     ⟨(some 3), none, .move (.t 31)⟩])
   (.ret))
   (.skip)))
  (.seq (.ops [⟨(some 33), none, .load (some 6) (.t 1)⟩,
    ⟨(some 34), none, .move (.t 4)⟩,
    ⟨(some 35), none, .call (.c (.fn (.func 32) [] [])) [(.t 33), (.t 34)]⟩,
    ⟨(some 32), none, .move (.t 35)⟩,
    ⟨(some 36), none, .extract 0 (.t 32)⟩,
    ⟨(some 37), none, .extract 1 (.t 32)⟩,
    ⟨(some 7), none, .move (.t 36)⟩,
    ⟨(some 5), none, .move (.t 37)⟩])
  (.seq (.seq (.ops [⟨(some 38), none, .move (.t 5)⟩,
    ⟨(some 39), none, .bin .neq (.t 38) (.c (.sc (.int .i64 (0))))⟩])
  (.cond (.t 39)
   (.seq (.ops [⟨(some 40), none, .move (.t 5)⟩,
     ⟨(some 2), none, .move (.c (.sl true .full 0 []))⟩,
     ⟨(some 3), none, .move (.t 40)⟩])
   (.ret))
   (.skip)))
  (.seq (.draw [⟨false, [1], [4], ⟨(some 41), none, .load (some 6) (.t 1)⟩⟩,
    ⟨false, [4], [], ⟨(some 42), none, .move (.t 4)⟩⟩,
    ⟨false, [7], [], ⟨(some 43), none, .move (.t 7)⟩⟩,
    ⟨false, [1], [], ⟨(some 44), none, .load (some 6) (.t 1)⟩⟩,
    ⟨true, [44], [], ⟨(some 45), none, .call (.c (.fn (.func 33) [] [])) [(.t 44)]⟩⟩,
    ⟨false, [], [4], ⟨(some 46), none, .mkMap⟩⟩,
    ⟨false, [], [4], ⟨(some 47), none, .mkMap⟩⟩]
    [⟨(some 48), none, .build [(.sc (.string ⟨#[]⟩)), (.sc (.bool false)), (.sl true .full 0 []), (.sl true .full 0 []), (.sl true .full 0 []), (.sl true .full 0 []), (.sl true .full 0 []), (.sl true .full 0 []), (.sl true .full 0 []), (.sc (.pointer none)), (.sc (.map none)), (.sc (.map none)), (.sc (.map none))] [((0, 6), (.t 41)), ((6, 1), (.t 42)), ((9, 1), (.t 43)), ((10, 1), (.t 45)), ((11, 1), (.t 46)), ((12, 1), (.t 47))]⟩,
    ⟨(some 49), none, .box (.t 48)⟩,
    ⟨(some 8), none, .move (.t 49)⟩])
  (.seq (.ops [⟨(some 51), none, .move (.t 8)⟩,
    ⟨(some 52), none, .load (some 6) (.t 1)⟩,
    ⟨(some 53), none, .move (.t 4)⟩,
    ⟨(some 54), none, .call (.c (.fn (.func 34) [] [])) [(.t 52), (.t 53)]⟩,
    ⟨(some 50), none, .move (.t 54)⟩,
    ⟨(some 55), none, .extract 0 (.t 50)⟩,
    ⟨(some 56), none, .extract 1 (.t 50)⟩,
    ⟨(some 57), none, .nilCheck (.t 51)⟩,
    ⟨(some 58), none, .faddr 7 (.t 57)⟩,
    ⟨none, none, .store 1 (.t 58) (.t 55)⟩])
  (.seq (.ops [⟨(some 60), none, .move (.t 8)⟩,
    ⟨(some 61), none, .load (some 6) (.t 1)⟩,
    ⟨(some 62), none, .call (.c (.fn (.func 35) [] [])) [(.t 61)]⟩,
    ⟨(some 59), none, .move (.t 62)⟩,
    ⟨(some 63), none, .extract 0 (.t 59)⟩,
    ⟨(some 64), none, .extract 1 (.t 59)⟩,
    ⟨(some 65), none, .nilCheck (.t 60)⟩,
    ⟨(some 66), none, .faddr 8 (.t 65)⟩,
    ⟨none, none, .store 1 (.t 66) (.t 63)⟩])
  (.seq (.ops [⟨(some 9), none, .move (.c (.sl true .full 0 []))⟩])
  (.seq (.seq (.ops [⟨(some 67), none, .move (.t 6)⟩,
    ⟨(some 68), none, .len (.t 67)⟩,
    ⟨(some 69), none, .move (.c (.sc (.int .i64 (0))))⟩])
  (.block 0 (.loop (.seq (.ops [⟨(some 70), none, .bin .lss (.t 69) (.t 68)⟩])
    (.seq (.cond (.t 70)
     (.skip)
     (.exit 0))
    (.seq (.block 1 (.seq (.ops [⟨(some 71), none, .iaddrS 9 (.t 67) (.t 69)⟩,
       ⟨(some 72), none, .load (some 9) (.t 71)⟩,
       ⟨(some 11), none, .alloc [(.sc (.int .i64 (0))), (.sc (.int .i64 (0))), (.sc (.int .i64 (0))), (.sc (.int .i64 (0))), (.sc (.int .i64 (0))), (.sc (.int .i64 (0))), (.sc (.int .i64 (0))), (.sc (.int .i64 (0))), (.sc (.int .i64 (0)))]⟩,
       ⟨none, none, .store 9 (.t 11) (.t 72)⟩])
     (.seq (.ops [⟨(some 73), none, .move (.t 9)⟩,
       ⟨(some 74), none, .move (.t 8)⟩,
       ⟨(some 75), none, .load (some 9) (.t 11)⟩,
       ⟨(some 76), none, .call (.c (.fn (.func 36) [] [])) [(.t 74), (.t 75)]⟩,
       ⟨(some 77), none, .append 7 56 (.t 73) (.t 76)⟩,
       ⟨(some 9), none, .move (.t 77)⟩])
     (.seq (.ops [⟨(some 78), none, .move (.t 9)⟩,
       ⟨(some 79), none, .len (.t 78)⟩,
       ⟨(some 80), none, .bin .gtr (.t 79) (.c (.sc (.int .i64 (262144))))⟩])
     (.cond (.t 80)
      (.seq (.ops [⟨(some 2), none, .move (.c (.sl true .full 0 []))⟩,
        ⟨(some 3), none, .move (.c (.sc (.int .i64 (9))))⟩])
      (.ret))
      (.skip))))))
    (.ops [⟨(some 81), none, .bin .add (.t 69) (.c (.sc (.int .i64 (1))))⟩,
      ⟨(some 69), none, .move (.t 81)⟩])))))))
  (.seq (.ops [⟨(some 82), none, .move (.t 9)⟩,
    ⟨(some 83), none, .call (.c (.fn (.func 12) [] [])) [(.t 82)]⟩,
    ⟨(some 2), none, .move (.t 83)⟩,
    ⟨(some 3), none, .move (.c (.sc (.int .i64 (0))))⟩])
  (.ret)))))))))))))),
  [.t 2, .t 3]⟩
theorem ok18 : EntryOk Tryz.prog 18 af18 := ⟨Tryz.f18, _, Tryz.func18, by decide, rfl, by kernel_rfl, by kernel_rfl, rfl⟩
/-- slices.SortStableFunc[[]hemiola/api.Played,hemiola/api.Played] -/
noncomputable def af24 : AF := ⟨9, .ops [⟨(some 4), none, .move (.t 0)⟩,
    ⟨(some 5), none, .move (.t 0)⟩,
    ⟨(some 6), none, .len (.t 5)⟩,
    ⟨(some 7), none, .move (.t 1)⟩,
    ⟨(some 8), none, .call (.c (.fn (.func 40) [] [])) [(.t 4), (.t 6), (.t 7)]⟩],
  []⟩
theorem ok24 : EntryOk Tryz.prog 24 af24 := ⟨Tryz.f24, _, Tryz.func24, by decide, rfl, by kernel_rfl, by kernel_rfl, rfl⟩
/-- hemiola/tempo.New -/
noncomputable def af32 : AF := ⟨148, .seq (.ops [⟨(some 2), none, .box (.t 0)⟩,
    ⟨(some 4), none, .move (.c (.sc (.pointer none)))⟩,
    ⟨(some 5), none, .move (.c (.sc (.int .i64 (0))))⟩])
  (.seq (.block 0 (.seq (.ops [⟨(some 21), none, .load (some 6) (.t 2)⟩,
     ⟨(some 22), none, .call (.c (.fn (.func 29) [] [])) [(.t 21)]⟩,
     ⟨(some 23), none, .un .not (.t 22)⟩,
     ⟨(some 20), none, .move (.t 23)⟩])
   (.cond (.t 20)
    (.seq (.ops [⟨(some 4), none, .move (.c (.sc (.pointer none)))⟩,
      ⟨(some 5), none, .move (.c (.sc (.int .i64 (24))))⟩])
    (.ret))
    (.seq (.ops [⟨(some 25), none, .move (.t 1)⟩,
      ⟨(some 26), none, .len (.t 25)⟩,
      ⟨(some 27), none, .bin .eql (.t 26) (.c (.sc (.int .i64 (0))))⟩,
      ⟨(some 24), none, .move (.t 27)⟩])
    (.cond (.t 24)
     (.seq (.ops [⟨(some 4), none, .move (.c (.sc (.pointer none)))⟩,
       ⟨(some 5), none, .move (.c (.sc (.int .i64 (4))))⟩])
     (.ret))
     (.seq (.ops [⟨(some 29), none, .move (.t 1)⟩,
       ⟨(some 30), none, .len (.t 29)⟩,
       ⟨(some 31), none, .bin .gtr (.t 30) (.c (.sc (.int .i64 (8192))))⟩,
       ⟨(some 28), none, .move (.t 31)⟩])
     (.cond (.t 28)
      (.seq (.ops [⟨(some 4), none, .move (.c (.sc (.pointer none)))⟩,
        ⟨(some 5), none, .move (.c (.sc (.int .i64 (9))))⟩])
      (.ret))
      (.seq (.ops [⟨(some 33), none, .move (.t 1)⟩,
        ⟨(some 34), none, .mkFn (.func 47) [] [(.t 2)]⟩,
        ⟨(some 35), none, .call (.c (.fn (.func 46) [] [])) [(.t 33), (.t 34)]⟩,
        ⟨(some 32), none, .move (.t 35)⟩])
      (.cond (.t 32)
       (.seq (.ops [⟨(some 4), none, .move (.c (.sc (.pointer none)))⟩,
         ⟨(some 5), none, .move (.c (.sc (.int .i64 (2))))⟩])
       (.ret))
       (.skip))))))))))
  (.seq (.ops [⟨(some 37), none, .load (some 6) (.t 2)⟩,
    ⟨(some 38), none, .call (.c (.fn (.func 48) [] [])) [(.t 37)]⟩,
    ⟨(some 36), none, .move (.t 38)⟩,
    ⟨(some 39), none, .extract 0 (.t 36)⟩,
    ⟨(some 40), none, .extract 1 (.t 36)⟩,
    ⟨(some 6), none, .move (.t 39)⟩,
    ⟨(some 7), none, .move (.t 40)⟩])
  (.seq (.ops [⟨(some 8), none, .move (.c (.sl true .full 0 []))⟩])
  (.seq (.ops [⟨(some 41), none, .buildSl 1 [(.c (.sc (.int .i64 (0))))]⟩,
    ⟨(some 9), none, .move (.t 41)⟩,
    ⟨(some 10), none, .move (.c (.sc (.int .i64 (0))))⟩])
  (.seq (.seq (.ops [⟨(some 42), none, .move (.t 1)⟩,
    ⟨(some 43), none, .len (.t 42)⟩,
    ⟨(some 44), none, .move (.c (.sc (.int .i64 (0))))⟩])
  (.block 1 (.loop (.seq (.ops [⟨(some 45), none, .bin .lss (.t 44) (.t 43)⟩])
    (.seq (.cond (.t 45)
     (.skip)
     (.exit 1))
    (.seq (.block 2 (.seq (.ops [⟨(some 46), none, .iaddrS 2 (.t 42) (.t 44)⟩,
       ⟨(some 47), none, .load (some 2) (.t 46)⟩,
       ⟨(some 12), none, .alloc [(.sc (.int .i64 (0))), (.sc (.int .i64 (0)))]⟩,
       ⟨none, none, .store 2 (.t 12) (.t 47)⟩])
     (.seq (.ops [⟨(some 48), none, .move (.t 7)⟩,
       ⟨(some 49), none, .faddr 0 (.t 12)⟩,
       ⟨(some 50), none, .load none (.t 49)⟩,
       ⟨(some 51), none, .iaddrS 1 (.t 48) (.t 50)⟩,
       ⟨(some 52), none, .load none (.t 51)⟩,
       ⟨(some 53), none, .buildSl 1 [(.t 52)]⟩,
       ⟨(some 13), none, .move (.t 53)⟩])
     (.seq (.seq (.ops [⟨(some 54), none, .faddr 3 (.t 2)⟩,
       ⟨(some 55), none, .load none (.t 54)⟩,
       ⟨(some 56), none, .faddr 0 (.t 12)⟩,
       ⟨(some 57), none, .load none (.t 56)⟩,
       ⟨(some 58), none, .iaddrS 22 (.t 55) (.t 57)⟩,
       ⟨(some 59), none, .faddr 20 (.t 58)⟩,
       ⟨(some 60), none, .load none (.t 59)⟩,
       ⟨(some 61), none, .len (.t 60)⟩,
       ⟨(some 62), none, .move (.c (.sc (.int .i64 (0))))⟩])
     (.block 3 (.loop (.seq (.ops [⟨(some 63), none, .bin .lss (.t 62) (.t 61)⟩])
       (.seq (.cond (.t 63)
        (.skip)
        (.exit 3))
       (.seq (.block 4 (.seq (.ops [⟨(some 64), none, .iaddrS 3 (.t 60) (.t 62)⟩,
          ⟨(some 65), none, .load (some 3) (.t 64)⟩,
          ⟨(some 15), none, .alloc [(.sc (.int .i64 (0))), (.sc (.int .i64 (0))), (.sc (.bool false))]⟩,
          ⟨none, none, .store 3 (.t 15) (.t 65)⟩])
        (.seq (.ops [⟨(some 66), none, .faddr 0 (.t 15)⟩,
          ⟨(some 67), none, .load none (.t 66)⟩,
          ⟨(some 68), none, .bin .gtr (.t 67) (.c (.sc (.int .i64 (0))))⟩])
        (.cond (.t 68)
         (.draw [⟨false, [13], [], ⟨(some 69), none, .move (.t 13)⟩⟩,
           ⟨false, [7], [], ⟨(some 70), none, .move (.t 7)⟩⟩,
           ⟨false, [12], [], ⟨(some 71), none, .faddr 0 (.t 12)⟩⟩,
           ⟨false, [71], [], ⟨(some 72), none, .load none (.t 71)⟩⟩,
           ⟨false, [70, 72], [], ⟨(some 73), none, .iaddrS 1 (.t 70) (.t 72)⟩⟩,
           ⟨false, [73], [], ⟨(some 74), none, .load none (.t 73)⟩⟩,
           ⟨false, [15], [], ⟨(some 75), none, .faddr 0 (.t 15)⟩⟩,
           ⟨false, [75], [], ⟨(some 76), none, .load none (.t 75)⟩⟩,
           ⟨true, [74, 76], [], ⟨(some 77), none, .bin .add (.t 74) (.t 76)⟩⟩,
           ⟨true, [77], [], ⟨(some 78), none, .buildSl 1 [(.t 77)]⟩⟩]
           [⟨(some 79), none, .append 1 8 (.t 69) (.t 78)⟩,
           ⟨(some 13), none, .move (.t 79)⟩])
         (.skip)))))
       (.ops [⟨(some 80), none, .bin .add (.t 62) (.c (.sc (.int .i64 (1))))⟩,
         ⟨(some 62), none, .move (.t 80)⟩])))))))
     (.seq (.ops [⟨(some 81), none, .move (.t 13)⟩,
       ⟨(some 82), none, .move (.t 7)⟩,
       ⟨(some 83), none, .faddr 0 (.t 12)⟩,
       ⟨(some 84), none, .load none (.t 83)⟩,
       ⟨(some 85), none, .bin .add (.t 84) (.c (.sc (.int .i64 (1))))⟩,
       ⟨(some 86), none, .iaddrS 1 (.t 82) (.t 85)⟩,
       ⟨(some 87), none, .load none (.t 86)⟩,
       ⟨(some 88), none, .buildSl 1 [(.t 87)]⟩,
       ⟨(some 89), none, .append 1 8 (.t 81) (.t 88)⟩,
       ⟨(some 13), none, .move (.t 89)⟩])
     (.seq (.seq (.ops [⟨(some 16), none, .move (.c (.sc (.int .i64 (1))))⟩])
     (.block 5 (.loop (.seq (.seq (.ops [⟨(some 90), none, .move (.t 16)⟩,
         ⟨(some 91), none, .move (.t 13)⟩,
         ⟨(some 92), none, .len (.t 91)⟩,
         ⟨(some 93), none, .bin .lss (.t 90) (.t 92)⟩])
       (.cond (.t 93)
        (.skip)
        (.exit 5)))
       (.seq (.block 6 (.seq (.ops [⟨(some 96), none, .move (.t 6)⟩,
          ⟨(some 97), none, .move (.t 13)⟩,
          ⟨(some 98), none, .move (.t 16)⟩,
          ⟨(some 99), none, .bin .sub (.t 98) (.c (.sc (.int .i64 (1))))⟩,
          ⟨(some 100), none, .iaddrS 1 (.t 97) (.t 99)⟩,
          ⟨(some 101), none, .load none (.t 100)⟩,
          ⟨(some 102), none, .call (.c (.fn (.func 49) [] [])) [(.t 96), (.t 101)]⟩,
          ⟨(some 17), none, .move (.t 102)⟩])
        (.seq (.draw [⟨false, [10], [], ⟨(some 103), none, .move (.t 10)⟩⟩,
          ⟨false, [13], [], ⟨(some 104), none, .move (.t 13)⟩⟩,
          ⟨false, [16], [], ⟨(some 105), none, .move (.t 16)⟩⟩,
          ⟨false, [104, 105], [], ⟨(some 106), none, .iaddrS 1 (.t 104) (.t 105)⟩⟩,
          ⟨false, [106], [], ⟨(some 107), none, .load none (.t 106)⟩⟩,
          ⟨false, [103, 107], [], ⟨(some 108), none, .bin .add (.t 103) (.t 107)⟩⟩,
          ⟨false, [13], [], ⟨(some 109), none, .move (.t 13)⟩⟩,
          ⟨false, [16], [], ⟨(some 110), none, .move (.t 16)⟩⟩,
          ⟨false, [110], [], ⟨(some 111), none, .bin .sub (.t 110) (.c (.sc (.int .i64 (1))))⟩⟩,
          ⟨false, [109, 111], [], ⟨(some 112), none, .iaddrS 1 (.t 109) (.t 111)⟩⟩,
          ⟨false, [112], [], ⟨(some 113), none, .load none (.t 112)⟩⟩]
          [⟨(some 114), none, .bin .sub (.t 108) (.t 113)⟩,
          ⟨(some 18), none, .move (.t 114)⟩])
        (.seq (.draw [⟨false, [8], [], ⟨(some 115), none, .move (.t 8)⟩⟩,
          ⟨false, [10], [], ⟨(some 116), none, .move (.t 10)⟩⟩,
          ⟨false, [18], [], ⟨(some 117), none, .move (.t 18)⟩⟩,
          ⟨false, [6], [], ⟨(some 118), none, .move (.t 6)⟩⟩,
          ⟨false, [17], [], ⟨(some 119), none, .move (.t 17)⟩⟩,
          ⟨false, [13], [], ⟨(some 120), none, .move (.t 13)⟩⟩,
          ⟨false, [16], [], ⟨(some 121), none, .move (.t 16)⟩⟩,
          ⟨false, [121], [], ⟨(some 122), none, .bin .sub (.t 121) (.c (.sc (.int .i64 (1))))⟩⟩,
          ⟨false, [120, 122], [], ⟨(some 123), none, .iaddrS 1 (.t 120) (.t 122)⟩⟩,
          ⟨false, [123], [], ⟨(some 124), none, .load none (.t 123)⟩⟩,
          ⟨true, [118, 119, 124], [], ⟨(some 125), none, .call (.c (.fn (.func 51) [] [])) [(.t 118), (.t 119), (.t 124)]⟩⟩,
          ⟨false, [6], [], ⟨(some 126), none, .move (.t 6)⟩⟩,
          ⟨false, [17], [], ⟨(some 127), none, .move (.t 17)⟩⟩,
          ⟨false, [13], [], ⟨(some 128), none, .move (.t 13)⟩⟩,
          ⟨false, [16], [], ⟨(some 129), none, .move (.t 16)⟩⟩,
          ⟨false, [128, 129], [], ⟨(some 130), none, .iaddrS 1 (.t 128) (.t 129)⟩⟩,
          ⟨false, [130], [10], ⟨(some 131), none, .load none (.t 130)⟩⟩,
          ⟨true, [126, 127, 131], [], ⟨(some 132), none, .call (.c (.fn (.func 51) [] [])) [(.t 126), (.t 127), (.t 131)]⟩⟩,
          ⟨true, [116, 117, 125, 132], [], ⟨(some 133), none, .build [(.sc (.int .i64 (0))), (.sc (.int .i64 (0))), (.sc (.int .i64 (0))), (.sc (.int .i64 (0))), (.sc (.int .i64 (0)))] [((0, 1), (.t 116)), ((1, 1), (.t 117)), ((2, 1), (.t 125)), ((3, 1), (.t 132))]⟩⟩]
          [⟨(some 134), none, .call (.c (.fn (.func 50) [] [])) [(.t 115), (.t 133)]⟩,
          ⟨(some 8), none, .move (.t 134)⟩])
        (.ops [⟨(some 135), none, .move (.t 18)⟩,
          ⟨(some 10), none, .move (.t 135)⟩])))))
       (.ops [⟨(some 94), none, .move (.t 16)⟩,
         ⟨(some 95), none, .bin .add (.t 94) (.c (.sc (.int .i64 (1))))⟩,
         ⟨(some 16), none, .move (.t 95)⟩]))))))
     (.ops [⟨(some 136), none, .move (.t 9)⟩,
       ⟨(some 137), none, .move (.t 10)⟩,
       ⟨(some 138), none, .buildSl 1 [(.t 137)]⟩,
       ⟨(some 139), none, .append 1 8 (.t 136) (.t 138)⟩,
       ⟨(some 9), none, .move (.t 139)⟩])))))))
    (.ops [⟨(some 140), none, .bin .add (.t 44) (.c (.sc (.int .i64 (1))))⟩,
      ⟨(some 44), none, .move (.t 140)⟩])))))))
  (.seq (.ops [⟨(some 141), none, .move (.t 8)⟩,
    ⟨(some 142), none, .call (.c (.fn (.func 52) [] [])) [(.t 141)]⟩,
    ⟨(some 19), none, .move (.t 142)⟩])
  (.seq (.ops [⟨(some 143), none, .move (.t 19)⟩,
    ⟨(some 144), none, .move (.t 9)⟩,
    ⟨(some 145), none, .nilCheck (.t 143)⟩,
    ⟨(some 146), none, .faddr 1 (.t 145)⟩,
    ⟨none, none, .store 1 (.t 146) (.t 144)⟩])
  (.seq (.ops [⟨(some 147), none, .move (.t 19)⟩,
    ⟨(some 4), none, .move (.t 147)⟩,
    ⟨(some 5), none, .move (.c (.sc (.int .i64 (0))))⟩])
  (.ret))))))))),
  [.t 4, .t 5]⟩
theorem ok32 : EntryOk Tryz.prog 32 af32 := ⟨Tryz.f32, _, Tryz.func32, by decide, rfl, by kernel_rfl, by kernel_rfl, rfl⟩
/-- (*hemiola/perform.player).play -/
noncomputable def af36 : AF := ⟨239, .seq (.ops [⟨(some 2), none, .box (.t 0)⟩,
    ⟨(some 3), none, .box (.t 1)⟩,
    ⟨(some 4), none, .move (.c (.sl true .full 0 []))⟩])
  (.seq (.draw [⟨false, [2], [], ⟨(some 26), none, .load none (.t 2)⟩⟩,
    ⟨false, [26], [], ⟨(some 27), none, .nilCheck (.t 26)⟩⟩,
    ⟨false, [27], [], ⟨(some 28), none, .faddr 10 (.t 27)⟩⟩,
    ⟨false, [28], [], ⟨(some 29), none, .load none (.t 28)⟩⟩,
    ⟨false, [3], [], ⟨(some 30), none, .faddr 6 (.t 3)⟩⟩,
    ⟨false, [30], [], ⟨(some 31), none, .load (some 2) (.t 30)⟩⟩,
    ⟨true, [29, 31], [], ⟨(some 32), none, .lookup [.i, .i] true (.agg [(.sc (.int .i64 (0))), (.sc (.int .i64 (0))), (.sc (.int .i64 (0))), (.sc (.int .i64 (0))), (.sc (.int .i64 (0))), (.sl true .full 0 []), (.sl true .full 0 []), (.sc (.int .i64 (0))), (.sc (.int .i64 (0))), (.sc (.int .i64 (0))), (.sl true .full 0 []), (.sc (.int .i64 (0))), (.sc (.int .i64 (0))), (.sc (.int .i64 (0))), (.sc (.int .i64 (0))), (.sc (.int .i64 (0))), (.sc (.int .i64 (0))), (.sc (.int .i64 (0)))]) (.t 29) (.t 31) false⟩⟩,
    ⟨false, [], [6], ⟨(some 5), none, .alloc [(.sc (.int .i64 (0))), (.sc (.int .i64 (0))), (.sc (.int .i64 (0))), (.sc (.int .i64 (0))), (.sc (.int .i64 (0))), (.sl true .full 0 []), (.sl true .full 0 []), (.sc (.int .i64 (0))), (.sc (.int .i64 (0))), (.sc (.int .i64 (0))), (.sl true .full 0 []), (.sc (.int .i64 (0))), (.sc (.int .i64 (0))), (.sc (.int .i64 (0))), (.sc (.int .i64 (0))), (.sc (.int .i64 (0))), (.sc (.int .i64 (0))), (.sc (.int .i64 (0)))]⟩⟩]
    [⟨none, none, .store 18 (.t 5) (.t 32)⟩])
  (.seq (.seq (.draw [⟨false, [2], [], ⟨(some 33), none, .load none (.t 2)⟩⟩,
    ⟨false, [33], [], ⟨(some 34), none, .nilCheck (.t 33)⟩⟩,
    ⟨false, [34], [], ⟨(some 35), none, .faddr 11 (.t 34)⟩⟩,
    ⟨false, [35], [], ⟨(some 36), none, .load none (.t 35)⟩⟩,
    ⟨false, [5], [], ⟨(some 37), none, .faddr 13 (.t 5)⟩⟩,
    ⟨false, [37], [], ⟨(some 38), none, .load none (.t 37)⟩⟩]
    [⟨(some 39), none, .lookup [.i] false (.sc .nilFunc) (.t 36) (.t 38) false⟩,
    ⟨(some 40), none, .eqN .fn false (.t 39) (.c (.sc .nilFunc))⟩])
  (.cond (.t 40)
   (.seq (.draw [⟨false, [2], [16], ⟨(some 41), none, .load none (.t 2)⟩⟩,
     ⟨false, [41], [], ⟨(some 42), none, .nilCheck (.t 41)⟩⟩,
     ⟨false, [42], [], ⟨(some 43), none, .faddr 11 (.t 42)⟩⟩,
     ⟨false, [43], [16], ⟨(some 44), none, .load none (.t 43)⟩⟩,
     ⟨false, [5], [], ⟨(some 45), none, .faddr 13 (.t 5)⟩⟩,
     ⟨false, [45], [16], ⟨(some 46), none, .load none (.t 45)⟩⟩,
     ⟨false, [2], [], ⟨(some 47), none, .load none (.t 2)⟩⟩,
     ⟨false, [47], [], ⟨(some 48), none, .nilCheck (.t 47)⟩⟩,
     ⟨false, [48], [], ⟨(some 49), none, .faddr 0 (.t 48)⟩⟩,
     ⟨false, [49], [], ⟨(some 50), none, .load (some 6) (.t 49)⟩⟩,
     ⟨false, [2], [], ⟨(some 51), none, .load none (.t 2)⟩⟩,
     ⟨false, [51], [], ⟨(some 52), none, .nilCheck (.t 51)⟩⟩,
     ⟨false, [52], [], ⟨(some 53), none, .faddr 10 (.t 52)⟩⟩,
     ⟨false, [53], [], ⟨(some 54), none, .load none (.t 53)⟩⟩,
     ⟨false, [5], [], ⟨(some 55), none, .faddr 13 (.t 5)⟩⟩,
     ⟨false, [55], [], ⟨(some 56), none, .load none (.t 55)⟩⟩,
     ⟨true, [50, 54, 56], [], ⟨(some 57), none, .call (.c (.fn (.func 38) [] [])) [(.t 50), (.t 54), (.t 56)]⟩⟩]
     [⟨none, none, .mapUp [.i] false (.t 44) (.t 46) (.t 57)⟩])
   (.draw [⟨false, [2], [12], ⟨(some 59), none, .load none (.t 2)⟩⟩,
     ⟨false, [59], [], ⟨(some 60), none, .nilCheck (.t 59)⟩⟩,
     ⟨false, [60], [], ⟨(some 61), none, .faddr 12 (.t 60)⟩⟩,
     ⟨false, [61], [12], ⟨(some 62), none, .load none (.t 61)⟩⟩,
     ⟨false, [5], [], ⟨(some 63), none, .faddr 13 (.t 5)⟩⟩,
     ⟨false, [63], [12], ⟨(some 64), none, .load none (.t 63)⟩⟩,
     ⟨false, [2], [], ⟨(some 65), none, .load none (.t 2)⟩⟩,
     ⟨false, [65], [], ⟨(some 66), none, .nilCheck (.t 65)⟩⟩,
     ⟨false, [66], [], ⟨(some 67), none, .faddr 0 (.t 66)⟩⟩,
     ⟨false, [67], [], ⟨(some 68), none, .load (some 6) (.t 67)⟩⟩,
     ⟨false, [5], [], ⟨(some 69), none, .faddr 13 (.t 5)⟩⟩,
     ⟨false, [69], [], ⟨(some 70), none, .load none (.t 69)⟩⟩,
     ⟨true, [68, 70], [], ⟨(some 71), none, .call (.c (.fn (.func 57) [] [])) [(.t 68), (.t 70)]⟩⟩,
     ⟨false, [71], [], ⟨(some 58), none, .move (.t 71)⟩⟩,
     ⟨false, [58], [], ⟨(some 72), none, .extract 0 (.t 58)⟩⟩,
     ⟨false, [58], [], ⟨(some 73), none, .extract 1 (.t 58)⟩⟩,
     ⟨true, [62, 64, 72], [], ⟨none, none, .mapUp [.i] false (.t 62) (.t 64) (.t 72)⟩⟩]
     []))
   (.skip)))
  (.seq (.draw [⟨false, [5], [7], ⟨(some 74), none, .load (some 18) (.t 5)⟩⟩,
    ⟨false, [2], [], ⟨(some 75), none, .load none (.t 2)⟩⟩,
    ⟨false, [75], [], ⟨(some 76), none, .nilCheck (.t 75)⟩⟩,
    ⟨false, [76], [], ⟨(some 77), none, .faddr 11 (.t 76)⟩⟩,
    ⟨false, [77], [], ⟨(some 78), none, .load none (.t 77)⟩⟩,
    ⟨false, [5], [], ⟨(some 79), none, .faddr 13 (.t 5)⟩⟩,
    ⟨false, [79], [], ⟨(some 80), none, .load none (.t 79)⟩⟩,
    ⟨true, [78, 80], [], ⟨(some 81), none, .lookup [.i] false (.sc .nilFunc) (.t 78) (.t 80) false⟩⟩,
    ⟨true, [74, 81], [], ⟨(some 82), none, .call (.c (.fn (.func 37) [] [])) [(.t 74), (.t 81)]⟩⟩,
    ⟨false, [], [7, 8], ⟨(some 6), none, .alloc [(.sc (.int .i64 (0)))]⟩⟩]
    [⟨none, none, .store 1 (.t 6) (.t 82)⟩])
  (.seq (.ops [⟨(some 7), none, .alloc [(.sl true .full 0 [])]⟩])
  (.seq (.ops [⟨(some 83), none, .mkFn (.func 58) [] [(.t 2), (.t 7), (.t 6), (.t 3)]⟩,
    ⟨(some 8), none, .move (.t 83)⟩])
  (.seq (.draw [⟨false, [5], [], ⟨(some 85), none, .faddr 0 (.t 5)⟩⟩,
    ⟨false, [85], [], ⟨(some 86), none, .faddr 6 (.t 85)⟩⟩,
    ⟨false, [86], [], ⟨(some 87), none, .load none (.t 86)⟩⟩,
    ⟨false, [5], [], ⟨(some 88), none, .faddr 0 (.t 5)⟩⟩,
    ⟨false, [88], [], ⟨(some 89), none, .faddr 5 (.t 88)⟩⟩,
    ⟨false, [89], [], ⟨(some 90), none, .load none (.t 89)⟩⟩,
    ⟨false, [90], [], ⟨(some 91), none, .iaddrS 5 (.t 90) (.c (.sc (.int .i64 (0))))⟩⟩,
    ⟨false, [91], [], ⟨(some 92), none, .faddr 0 (.t 91)⟩⟩,
    ⟨false, [92], [], ⟨(some 93), none, .load (some 3) (.t 92)⟩⟩,
    ⟨false, [5], [], ⟨(some 94), none, .faddr 17 (.t 5)⟩⟩,
    ⟨false, [94], [], ⟨(some 95), none, .load none (.t 94)⟩⟩,
    ⟨true, [87, 93, 95], [], ⟨(some 96), none, .call (.c (.fn (.func 60) [] [])) [(.t 87), (.t 93), (.t 95)]⟩⟩,
    ⟨true, [96], [], ⟨(some 84), none, .move (.t 96)⟩⟩,
    ⟨true, [84], [], ⟨(some 97), none, .extract 0 (.t 84)⟩⟩,
    ⟨true, [84], [], ⟨(some 98), none, .extract 1 (.t 84)⟩⟩,
    ⟨true, [84], [], ⟨(some 99), none, .extract 2 (.t 84)⟩⟩,
    ⟨true, [97], [], ⟨(some 9), none, .move (.t 97)⟩⟩,
    ⟨true, [98], [], ⟨(some 10), none, .move (.t 98)⟩⟩]
    [⟨(some 11), none, .move (.t 99)⟩])
  (.seq (.seq (.ops [⟨(some 100), none, .faddr 8 (.t 3)⟩,
    ⟨(some 101), none, .load none (.t 100)⟩,
    ⟨(some 102), none, .bin .eql (.t 101) (.c (.sc (.int .i64 (0))))⟩])
  (.cond (.t 102)
   (.seq (.ops [⟨(some 103), none, .move (.t 9)⟩,
     ⟨(some 104), none, .len (.t 103)⟩,
     ⟨(some 105), none, .move (.c (.sc (.int .i64 (0))))⟩])
   (.block 0 (.loop (.seq (.ops [⟨(some 106), none, .bin .lss (.t 105) (.t 104)⟩])
     (.seq (.cond (.t 106)
      (.skip)
      (.exit 0))
     (.seq (.block 1 (.seq (.ops [⟨(some 107), none, .iaddrS 3 (.t 103) (.t 105)⟩,
        ⟨(some 108), none, .load (some 3) (.t 107)⟩,
        ⟨(some 13), none, .alloc [(.sc (.int .i64 (0))), (.sc (.int .i64 (0))), (.sc (.int .i64 (0)))]⟩,
        ⟨none, none, .store 3 (.t 13) (.t 108)⟩])
      (.ops [⟨(some 109), none, .move (.t 8)⟩,
        ⟨(some 110), none, .faddr 0 (.t 3)⟩,
        ⟨(some 111), none, .load none (.t 110)⟩,
        ⟨(some 112), none, .faddr 0 (.t 13)⟩,
        ⟨(some 113), none, .load none (.t 112)⟩,
        ⟨(some 114), none, .bin .add (.t 111) (.t 113)⟩,
        ⟨(some 115), none, .faddr 0 (.t 3)⟩,
        ⟨(some 116), none, .load none (.t 115)⟩,
        ⟨(some 117), none, .faddr 1 (.t 13)⟩,
        ⟨(some 118), none, .load none (.t 117)⟩,
        ⟨(some 119), none, .bin .add (.t 116) (.t 118)⟩,
        ⟨(some 120), none, .faddr 0 (.t 3)⟩,
        ⟨(some 121), none, .load none (.t 120)⟩,
        ⟨(some 122), none, .faddr 1 (.t 13)⟩,
        ⟨(some 123), none, .load none (.t 122)⟩,
        ⟨(some 124), none, .bin .add (.t 121) (.t 123)⟩,
        ⟨(some 125), none, .faddr 2 (.t 3)⟩,
        ⟨(some 126), none, .load none (.t 125)⟩,
        ⟨(some 127), none, .faddr 2 (.t 13)⟩,
        ⟨(some 128), none, .load none (.t 127)⟩,
        ⟨(some 129), none, .bin .add (.t 126) (.t 128)⟩,
        ⟨(some 130), none, .call (.t 109) [(.t 114), (.t 119), (.t 124), (.t 129)]⟩])))
     (.ops [⟨(some 131), none, .bin .add (.t 105) (.c (.sc (.int .i64 (1))))⟩,
       ⟨(some 105), none, .move (.t 131)⟩])))))))
   (.skip)))
  (.seq (.ops [⟨(some 14), none, .move (.c (.sc (.int .i64 (0))))⟩])
  (.seq (.seq (.ops [⟨(some 132), none, .faddr 8 (.t 3)⟩,
    ⟨(some 133), none, .load none (.t 132)⟩,
    ⟨(some 134), none, .faddr 0 (.t 5)⟩,
    ⟨(some 135), none, .faddr 5 (.t 134)⟩,
    ⟨(some 136), none, .load none (.t 135)⟩,
    ⟨(some 137), none, .len (.t 136)⟩,
    ⟨(some 138), none, .bin .sub (.t 137) (.c (.sc (.int .i64 (1))))⟩,
    ⟨(some 139), none, .bin .eql (.t 133) (.t 138)⟩])
  (.cond (.t 139)
   (.ops [⟨(some 140), none, .faddr 0 (.t 5)⟩,
     ⟨(some 141), none, .faddr 8 (.t 140)⟩,
     ⟨(some 142), none, .load none (.t 141)⟩,
     ⟨(some 14), none, .move (.t 142)⟩])
   (.skip)))
  (.seq (.draw [⟨false, [5], [], ⟨(some 144), none, .faddr 0 (.t 5)⟩⟩,
    ⟨false, [144], [], ⟨(some 145), none, .faddr 5 (.t 144)⟩⟩,
    ⟨false, [145], [14], ⟨(some 146), none, .load none (.t 145)⟩⟩,
    ⟨false, [3], [], ⟨(some 147), none, .faddr 8 (.t 3)⟩⟩,
    ⟨false, [147], [14], ⟨(some 148), none, .load none (.t 147)⟩⟩,
    ⟨false, [146, 148], [], ⟨(some 149), none, .iaddrS 5 (.t 146) (.t 148)⟩⟩,
    ⟨false, [149], [], ⟨(some 150), none, .faddr 0 (.t 149)⟩⟩,
    ⟨false, [150], [14], ⟨(some 151), none, .load (some 3) (.t 150)⟩⟩,
    ⟨false, [2], [], ⟨(some 152), none, .load none (.t 2)⟩⟩,
    ⟨false, [152], [], ⟨(some 153), none, .nilCheck (.t 152)⟩⟩,
    ⟨false, [153], [], ⟨(some 154), none, .faddr 12 (.t 153)⟩⟩,
    ⟨false, [154], [], ⟨(some 155), none, .load none (.t 154)⟩⟩,
    ⟨false, [5], [], ⟨(some 156), none, .faddr 13 (.t 5)⟩⟩,
    ⟨false, [156], [], ⟨(some 157), none, .load none (.t 156)⟩⟩,
    ⟨true, [155, 157], [], ⟨(some 158), none, .lookup [.i] false (.sl true .full 0 []) (.t 155) (.t 157) false⟩⟩,
    ⟨false, [5], [], ⟨(some 159), none, .faddr 15 (.t 5)⟩⟩,
    ⟨false, [159], [14], ⟨(some 160), none, .load none (.t 159)⟩⟩,
    ⟨false, [158, 160], [], ⟨(some 161), none, .iaddrS 10 (.t 158) (.t 160)⟩⟩,
    ⟨false, [161], [], ⟨(some 162), none, .faddr 1 (.t 161)⟩⟩,
    ⟨false, [162], [], ⟨(some 163), none, .load none (.t 162)⟩⟩,
    ⟨true, [151, 163], [], ⟨(some 164), none, .call (.c (.fn (.func 61) [] [])) [(.t 151), (.t 163)]⟩⟩,
    ⟨true, [164], [], ⟨(some 143), none, .move (.t 164)⟩⟩,
    ⟨true, [143], [], ⟨(some 165), none, .extract 0 (.t 143)⟩⟩,
    ⟨true, [143], [], ⟨(some 166), none, .extract 1 (.t 143)⟩⟩,
    ⟨true, [143], [], ⟨(some 167), none, .extract 2 (.t 143)⟩⟩,
    ⟨true, [165], [], ⟨(some 15), none, .move (.t 165)⟩⟩,
    ⟨true, [166], [], ⟨(some 16), none, .move (.t 166)⟩⟩]
    [⟨(some 17), none, .move (.t 167)⟩])
  (.seq (.ops [⟨(some 169), none, .move (.t 14)⟩,
    ⟨(some 170), none, .faddr 1 (.t 3)⟩,
    ⟨(some 171), none, .load none (.t 170)⟩,
    ⟨(some 172), none, .faddr 0 (.t 3)⟩,
    ⟨(some 173), none, .load none (.t 172)⟩,
    ⟨(some 174), none, .bin .sub (.t 171) (.t 173)⟩,
    ⟨(some 175), none, .move (.t 10)⟩,
    ⟨(some 176), none, .bin .sub (.t 174) (.t 175)⟩,
    ⟨(some 177), none, .move (.t 15)⟩,
    ⟨(some 178), none, .move (.t 16)⟩,
    ⟨(some 179), none, .call (.c (.fn (.func 62) [] [])) [(.t 169), (.t 176), (.t 177), (.t 178)]⟩,
    ⟨(some 168), none, .move (.t 179)⟩,
    ⟨(some 180), none, .extract 0 (.t 168)⟩,
    ⟨(some 181), none, .extract 1 (.t 168)⟩,
    ⟨(some 18), none, .move (.t 180)⟩,
    ⟨(some 19), none, .move (.t 181)⟩])
  (.seq (.draw [⟨false, [5], [], ⟨(some 182), none, .faddr 0 (.t 5)⟩⟩,
    ⟨false, [182], [], ⟨(some 183), none, .faddr 7 (.t 182)⟩⟩,
    ⟨false, [183], [5], ⟨(some 184), none, .load none (.t 183)⟩⟩,
    ⟨false, [2], [], ⟨(some 185), none, .load none (.t 2)⟩⟩,
    ⟨false, [5], [], ⟨(some 186), none, .load (some 18) (.t 5)⟩⟩,
    ⟨true, [185, 186], [], ⟨(some 187), none, .call (.c (.fn (.func 63) [] [])) [(.t 185), (.t 186)]⟩⟩]
    [⟨(some 188), none, .call (.c (.fn (.func 7) [] [])) [(.t 184), (.t 187)]⟩,
    ⟨(some 20), none, .move (.t 188)⟩])
  (.seq (.seq (.ops [⟨(some 189), none, .move (.t 18)⟩,
    ⟨(some 190), none, .len (.t 189)⟩,
    ⟨(some 191), none, .move (.c (.sc (.int .i64 (0))))⟩])
  (.block 2 (.loop (.seq (.ops [⟨(some 192), none, .bin .lss (.t 191) (.t 190)⟩])
    (.seq (.cond (.t 192)
     (.skip)
     (.exit 2))
    (.seq (.block 3 (.seq (.ops [⟨(some 193), none, .move (.t 191)⟩,
       ⟨(some 194), none, .iaddrS 3 (.t 189) (.t 191)⟩,
       ⟨(some 195), none, .load (some 3) (.t 194)⟩,
       ⟨(some 22), none, .alloc [(.sc (.int .i64 (0))), (.sc (.int .i64 (0))), (.sc (.int .i64 (0)))]⟩,
       ⟨(some 21), none, .move (.t 193)⟩,
       ⟨none, none, .store 3 (.t 22) (.t 195)⟩])
     (.seq (.draw [⟨false, [3], [], ⟨(some 196), none, .faddr 0 (.t 3)⟩⟩,
       ⟨false, [196], [], ⟨(some 197), none, .load none (.t 196)⟩⟩,
       ⟨false, [10], [], ⟨(some 198), none, .move (.t 10)⟩⟩,
       ⟨false, [197, 198], [], ⟨(some 199), none, .bin .add (.t 197) (.t 198)⟩⟩,
       ⟨false, [22], [], ⟨(some 200), none, .faddr 0 (.t 22)⟩⟩,
       ⟨false, [200], [], ⟨(some 201), none, .load none (.t 200)⟩⟩,
       ⟨false, [199, 201], [], ⟨(some 202), none, .bin .add (.t 199) (.t 201)⟩⟩,
       ⟨false, [3], [], ⟨(some 203), none, .faddr 0 (.t 3)⟩⟩,
       ⟨false, [203], [], ⟨(some 204), none, .load none (.t 203)⟩⟩,
       ⟨false, [10], [], ⟨(some 205), none, .move (.t 10)⟩⟩,
       ⟨false, [204, 205], [], ⟨(some 206), none, .bin .add (.t 204) (.t 205)⟩⟩,
       ⟨false, [22], [], ⟨(some 207), none, .faddr 1 (.t 22)⟩⟩,
       ⟨false, [207], [], ⟨(some 208), none, .load none (.t 207)⟩⟩,
       ⟨false, [206, 208], [], ⟨(some 209), none, .bin .add (.t 206) (.t 208)⟩⟩,
       ⟨false, [202], [], ⟨(some 23), none, .move (.t 202)⟩⟩]
       [⟨(some 24), none, .move (.t 209)⟩])
     (.seq (.ops [⟨(some 210), none, .move (.t 24)⟩,
       ⟨(some 25), none, .move (.t 210)⟩])
     (.seq (.seq (.ops [⟨(some 211), none, .move (.t 21)⟩,
       ⟨(some 212), none, .move (.t 18)⟩,
       ⟨(some 213), none, .len (.t 212)⟩,
       ⟨(some 214), none, .bin .sub (.t 213) (.c (.sc (.int .i64 (1))))⟩,
       ⟨(some 215), none, .bin .eql (.t 211) (.t 214)⟩])
     (.cond (.t 215)
      (.ops [⟨(some 216), none, .move (.t 23)⟩,
        ⟨(some 217), none, .move (.t 24)⟩,
        ⟨(some 218), none, .move (.t 23)⟩,
        ⟨(some 219), none, .bin .sub (.t 217) (.t 218)⟩,
        ⟨(some 220), none, .move (.t 20)⟩,
        ⟨(some 221), none, .bin .mul (.t 219) (.t 220)⟩,
        ⟨(some 222), none, .bin .quo (.t 221) (.c (.sc (.int .i64 (100))))⟩,
        ⟨(some 223), none, .bin .add (.t 216) (.t 222)⟩,
        ⟨(some 224), none, .move (.t 23)⟩,
        ⟨(some 225), none, .bin .add (.t 224) (.c (.sc (.int .i64 (1))))⟩,
        ⟨(some 226), none, .mm true [(.t 223), (.t 225)]⟩,
        ⟨(some 25), none, .move (.t 226)⟩])
      (.skip)))
     (.ops [⟨(some 227), none, .move (.t 8)⟩,
       ⟨(some 228), none, .move (.t 23)⟩,
       ⟨(some 229), none, .move (.t 24)⟩,
       ⟨(some 230), none, .move (.t 25)⟩,
       ⟨(some 231), none, .faddr 2 (.t 3)⟩,
       ⟨(some 232), none, .load none (.t 231)⟩,
       ⟨(some 233), none, .faddr 2 (.t 22)⟩,
       ⟨(some 234), none, .load none (.t 233)⟩,
       ⟨(some 235), none, .bin .add (.t 232) (.t 234)⟩,
       ⟨(some 236), none, .call (.t 227) [(.t 228), (.t 229), (.t 230), (.t 235)]⟩]))))))
    (.ops [⟨(some 237), none, .bin .add (.t 191) (.c (.sc (.int .i64 (1))))⟩,
      ⟨(some 191), none, .move (.t 237)⟩])))))))
  (.seq (.ops [⟨(some 238), none, .load none (.t 7)⟩,
    ⟨(some 4), none, .move (.t 238)⟩])
  (.ret))))))))))))))),
  [.t 4]⟩
theorem ok36 : EntryOk Tryz.prog 36 af36 := ⟨Tryz.f36, _, Tryz.func36, by decide, rfl, by kernel_rfl, by kernel_rfl, rfl⟩
/-- hemiola/check.all -/
noncomputable def af41 : AF := ⟨94, .seq (.ops [⟨(some 1), none, .box (.t 0)⟩,
    ⟨(some 2), none, .move (.c (.sl true .full 0 []))⟩])
  (.seq (.ops [⟨(some 7), none, .load (some 6) (.t 1)⟩,
    ⟨(some 8), none, .build [(.sc (.string ⟨#[]⟩)), (.sc (.bool false)), (.sl true .full 0 []), (.sl true .full 0 []), (.sl true .full 0 []), (.sl true .full 0 []), (.sc (.int .i64 (0))), (.sl true .full 0 [])] [((0, 6), (.t 7))]⟩,
    ⟨(some 9), none, .box (.t 8)⟩,
    ⟨(some 3), none, .move (.t 9)⟩])
  (.seq (.ops [⟨(some 10), none, .move (.t 3)⟩,
    ⟨(some 11), none, .mkFn (.func 75) [(.t 10)] []⟩,
    ⟨(some 12), none, .move (.t 3)⟩,
    ⟨(some 13), none, .mkFn (.func 76) [(.t 12)] []⟩,
    ⟨(some 14), none, .move (.t 3)⟩,
    ⟨(some 15), none, .mkFn (.func 77) [(.t 14)] []⟩,
    ⟨(some 16), none, .move (.t 3)⟩,
    ⟨(some 17), none, .mkFn (.func 78) [(.t 16)] []⟩,
    ⟨(some 18), none, .move (.t 3)⟩,
    ⟨(some 19), none, .mkFn (.func 79) [(.t 18)] []⟩,
    ⟨(some 20), none, .move (.t 3)⟩,
    ⟨(some 21), none, .mkFn (.func 80) [(.t 20)] []⟩,
    ⟨(some 22), none, .move (.t 3)⟩,
    ⟨(some 23), none, .mkFn (.func 81) [(.t 22)] []⟩,
    ⟨(some 24), none, .move (.t 3)⟩,
    ⟨(some 25), none, .mkFn (.func 82) [(.t 24)] []⟩,
    ⟨(some 26), none, .move (.t 3)⟩,
    ⟨(some 27), none, .mkFn (.func 83) [(.t 26)] []⟩,
    ⟨(some 28), none, .move (.t 3)⟩,
    ⟨(some 29), none, .mkFn (.func 84) [(.t 28)] []⟩,
    ⟨(some 30), none, .move (.t 3)⟩,
    ⟨(some 31), none, .mkFn (.func 85) [(.t 30)] []⟩,
    ⟨(some 32), none, .move (.t 3)⟩,
    ⟨(some 33), none, .mkFn (.func 86) [(.t 32)] []⟩,
    ⟨(some 34), none, .move (.t 3)⟩,
    ⟨(some 35), none, .mkFn (.func 87) [(.t 34)] []⟩,
    ⟨(some 36), none, .move (.t 3)⟩,
    ⟨(some 37), none, .mkFn (.func 88) [(.t 36)] []⟩,
    ⟨(some 38), none, .move (.t 3)⟩,
    ⟨(some 39), none, .mkFn (.func 89) [(.t 38)] []⟩,
    ⟨(some 40), none, .move (.t 3)⟩,
    ⟨(some 41), none, .mkFn (.func 90) [(.t 40)] []⟩,
    ⟨(some 42), none, .move (.t 3)⟩,
    ⟨(some 43), none, .mkFn (.func 91) [(.t 42)] []⟩,
    ⟨(some 44), none, .buildSl 1 [(.t 11), (.t 13), (.t 15), (.t 17), (.t 19), (.t 21), (.t 23), (.t 25), (.t 27), (.t 29), (.t 31), (.t 33), (.t 35), (.t 37), (.t 39), (.t 41), (.t 43)]⟩,
    ⟨(some 4), none, .move (.t 44)⟩])
  (.seq (.seq (.ops [⟨(some 45), none, .move (.t 4)⟩,
    ⟨(some 46), none, .len (.t 45)⟩,
    ⟨(some 47), none, .move (.c (.sc (.int .i64 (0))))⟩])
  (.block 0 (.loop (.seq (.ops [⟨(some 48), none, .bin .lss (.t 47) (.t 46)⟩])
    (.seq (.cond (.t 48)
     (.skip)
     (.exit 0))
    (.seq (.block 1 (.seq (.ops [⟨(some 49), none, .move (.t 47)⟩,
       ⟨(some 50), none, .iaddrS 1 (.t 45) (.t 47)⟩,
       ⟨(some 51), none, .load none (.t 50)⟩,
       ⟨(some 5), none, .move (.t 49)⟩,
       ⟨(some 6), none, .move (.t 51)⟩])
     (.seq (.ops [⟨(some 52), none, .move (.t 3)⟩,
       ⟨(some 53), none, .move (.t 5)⟩,
       ⟨(some 54), none, .bin .add (.t 53) (.c (.sc (.int .i64 (1))))⟩,
       ⟨(some 55), none, .nilCheck (.t 52)⟩,
       ⟨(some 56), none, .faddr 6 (.t 55)⟩,
       ⟨none, none, .store 1 (.t 56) (.t 54)⟩])
     (.seq (.seq (.ops [⟨(some 57), none, .move (.t 3)⟩,
       ⟨(some 58), none, .nilCheck (.t 57)⟩,
       ⟨(some 59), none, .faddr 7 (.t 58)⟩,
       ⟨(some 60), none, .load none (.t 59)⟩,
       ⟨(some 61), none, .len (.t 60)⟩,
       ⟨(some 62), none, .bin .gtr (.t 61) (.c (.sc (.int .i64 (0))))⟩,
       ⟨(some 63), none, .move (.t 62)⟩,
       ⟨(some 64), (some (63, true)), .move (.t 3)⟩,
       ⟨(some 65), (some (63, true)), .nilCheck (.t 64)⟩,
       ⟨(some 66), (some (63, true)), .faddr 6 (.t 65)⟩,
       ⟨(some 67), (some (63, true)), .load none (.t 66)⟩,
       ⟨(some 68), (some (63, true)), .bin .eql (.t 67) (.c (.sc (.int .i64 (2))))⟩,
       ⟨(some 69), (some (63, true)), .move (.t 68)⟩,
       ⟨(some 70), (some (69, false)), .move (.t 3)⟩,
       ⟨(some 71), (some (69, false)), .nilCheck (.t 70)⟩,
       ⟨(some 72), (some (69, false)), .faddr 6 (.t 71)⟩,
       ⟨(some 73), (some (69, false)), .load none (.t 72)⟩,
       ⟨(some 74), (some (69, false)), .bin .geq (.t 73) (.c (.sc (.int .i64 (10))))⟩,
       ⟨(some 75), (some (69, false)), .move (.t 74)⟩,
       ⟨(some 76), (some (75, true)), .move (.t 3)⟩,
       ⟨(some 77), (some (75, true)), .nilCheck (.t 76)⟩,
       ⟨(some 78), (some (75, true)), .faddr 7 (.t 77)⟩,
       ⟨(some 79), (some (75, true)), .load none (.t 78)⟩,
       ⟨(some 80), (some (75, true)), .iaddrS 3 (.t 79) (.c (.sc (.int .i64 (0))))⟩,
       ⟨(some 81), (some (75, true)), .faddr 0 (.t 80)⟩,
       ⟨(some 82), (some (75, true)), .load none (.t 81)⟩,
       ⟨(some 83), (some (75, true)), .bin .lss (.t 82) (.c (.sc (.int .i64 (10))))⟩,
       ⟨(some 84), (some (69, false)), .pick (.t 75) (.t 83) (.c (.sc (.bool false)))⟩,
       ⟨(some 85), (some (63, true)), .pick (.t 69) (.c (.sc (.bool true))) (.t 84)⟩,
       ⟨(some 86), none, .pick (.t 63) (.t 85) (.c (.sc (.bool false)))⟩])
     (.cond (.t 86)
      (.exit 0)
      (.skip)))
     (.ops [⟨(some 87), none, .move (.t 6)⟩,
       ⟨(some 88), none, .call (.t 87) []⟩])))))
    (.ops [⟨(some 89), none, .bin .add (.t 47) (.c (.sc (.int .i64 (1))))⟩,
      ⟨(some 47), none, .move (.t 89)⟩])))))))
  (.seq (.ops [⟨(some 90), none, .move (.t 3)⟩,
    ⟨(some 91), none, .nilCheck (.t 90)⟩,
    ⟨(some 92), none, .faddr 7 (.t 91)⟩,
    ⟨(some 93), none, .load none (.t 92)⟩,
    ⟨(some 2), none, .move (.t 93)⟩])
  (.ret))))),
  [.t 2]⟩
theorem ok41 : EntryOk Tryz.prog 41 af41 := ⟨Tryz.f41, _, Tryz.func41, by decide, rfl, by kernel_rfl, by kernel_rfl, rfl⟩
/-- hemiola/timeline.Sort -/
noncomputable def af45 : AF := ⟨6, .seq (.ops [⟨(some 2), none, .move (.c (.sl true .full 0 []))⟩])
  (.seq (.ops [⟨(some 3), none, .move (.t 0)⟩,
    ⟨(some 4), none, .call (.c (.fn (.func 101) [] [])) [(.t 3)]⟩,
    ⟨(some 5), none, .call (.c (.fn (.func 100) [] [])) [(.t 4), (.c (.fn (.func 102) [] []))]⟩,
    ⟨(some 2), none, .move (.t 5)⟩])
  (.ret)),
  [.t 2]⟩
theorem ok45 : EntryOk Tryz.prog 45 af45 := ⟨Tryz.f45, _, Tryz.func45, by decide, rfl, by kernel_rfl, by kernel_rfl, rfl⟩
/-- hemiola/tempo.index -/
noncomputable def af49 : AF := ⟨10, .seq (.ops [⟨(some 2), none, .box (.t 0)⟩,
    ⟨(some 3), none, .box (.t 1)⟩,
    ⟨(some 4), none, .move (.c (.sc (.int .i64 (0))))⟩])
  (.seq (.ops [⟨(some 5), none, .load none (.t 2)⟩,
    ⟨(some 6), none, .len (.t 5)⟩,
    ⟨(some 7), none, .mkFn (.func 104) [] [(.t 2), (.t 3)]⟩,
    ⟨(some 8), none, .call (.c (.fn (.func 70) [] [])) [(.t 6), (.t 7)]⟩,
    ⟨(some 9), none, .bin .sub (.t 8) (.c (.sc (.int .i64 (1))))⟩,
    ⟨(some 4), none, .move (.t 9)⟩])
  (.ret)),
  [.t 4]⟩
theorem ok49 : EntryOk Tryz.prog 49 af49 := ⟨Tryz.f49, _, Tryz.func49, by decide, rfl, by kernel_rfl, by kernel_rfl, rfl⟩
/-- hemiola/measure.Length -/
noncomputable def af53 : AF := ⟨34, .seq (.ops [⟨(some 1), none, .box (.t 0)⟩,
    ⟨(some 2), none, .move (.c (.sc (.int .i64 (0))))⟩,
    ⟨(some 3), none, .move (.c (.sc (.int .i64 (0))))⟩])
  (.seq (.ops [⟨(some 7), none, .faddr 2 (.t 1)⟩,
    ⟨(some 8), none, .load (some 8) (.t 7)⟩,
    ⟨(some 9), none, .call (.c (.fn (.func 107) [] [])) [(.t 8)]⟩,
    ⟨(some 6), none, .move (.t 9)⟩,
    ⟨(some 10), none, .extract 0 (.t 6)⟩,
    ⟨(some 11), none, .extract 1 (.t 6)⟩,
    ⟨(some 4), none, .move (.t 10)⟩,
    ⟨(some 5), none, .move (.t 11)⟩])
  (.seq (.block 0 (.seq (.ops [⟨(some 13), none, .move (.t 5)⟩,
     ⟨(some 14), none, .bin .neq (.t 13) (.c (.sc (.int .i64 (0))))⟩,
     ⟨(some 12), none, .move (.t 14)⟩])
   (.cond (.t 12)
    (.seq (.ops [⟨(some 15), none, .move (.t 5)⟩,
      ⟨(some 2), none, .move (.c (.sc (.int .i64 (0))))⟩,
      ⟨(some 3), none, .move (.t 15)⟩])
    (.ret))
    (.seq (.ops [⟨(some 17), none, .faddr 10 (.t 1)⟩,
      ⟨(some 18), none, .load none (.t 17)⟩,
      ⟨(some 19), none, .bin .lss (.t 18) (.c (.sc (.int .i64 (0))))⟩,
      ⟨(some 16), none, .move (.t 19)⟩])
    (.cond (.t 16)
     (.seq (.ops [⟨(some 2), none, .move (.c (.sc (.int .i64 (0))))⟩,
       ⟨(some 3), none, .move (.c (.sc (.int .i64 (2))))⟩])
     (.ret))
     (.seq (.ops [⟨(some 21), none, .faddr 10 (.t 1)⟩,
       ⟨(some 22), none, .load none (.t 21)⟩,
       ⟨(some 23), none, .bin .gtr (.t 22) (.c (.sc (.int .i64 (0))))⟩,
       ⟨(some 20), none, .move (.t 23)⟩])
     (.cond (.t 20)
      (.ops [⟨(some 24), none, .faddr 10 (.t 1)⟩,
        ⟨(some 25), none, .load none (.t 24)⟩,
        ⟨(some 4), none, .move (.t 25)⟩])
      (.skip))))))))
  (.seq (.block 1 (.seq (.ops [⟨(some 27), none, .move (.t 4)⟩,
     ⟨(some 28), none, .bin .rem (.t 27) (.c (.sc (.int .i64 (7560))))⟩,
     ⟨(some 29), none, .bin .neq (.t 28) (.c (.sc (.int .i64 (0))))⟩,
     ⟨(some 26), none, .move (.t 29)⟩])
   (.cond (.t 26)
    (.seq (.ops [⟨(some 2), none, .move (.c (.sc (.int .i64 (0))))⟩,
      ⟨(some 3), none, .move (.c (.sc (.int .i64 (16))))⟩])
    (.ret))
    (.seq (.ops [⟨(some 31), none, .move (.t 4)⟩,
      ⟨(some 32), none, .bin .gtr (.t 31) (.c (.sc (.int .i64 (15482880))))⟩,
      ⟨(some 30), none, .move (.t 32)⟩])
    (.cond (.t 30)
     (.seq (.ops [⟨(some 2), none, .move (.c (.sc (.int .i64 (0))))⟩,
       ⟨(some 3), none, .move (.c (.sc (.int .i64 (5))))⟩])
     (.ret))
     (.skip))))))
  (.seq (.ops [⟨(some 33), none, .move (.t 4)⟩,
    ⟨(some 2), none, .move (.t 33)⟩,
    ⟨(some 3), none, .move (.c (.sc (.int .i64 (0))))⟩])
  (.ret))))),
  [.t 2, .t 3]⟩
theorem ok53 : EntryOk Tryz.prog 53 af53 := ⟨Tryz.f53, _, Tryz.func53, by decide, rfl, by kernel_rfl, by kernel_rfl, rfl⟩
/-- hemiola/timeline.Contexts -/
noncomputable def af57 : AF := ⟨100, .seq (.ops [⟨(some 2), none, .box (.t 0)⟩,
    ⟨(some 4), none, .move (.c (.sl true .full 0 []))⟩,
    ⟨(some 5), none, .move (.c (.sc (.int .i64 (0))))⟩])
  (.seq (.seq (.ops [⟨(some 16), none, .load (some 6) (.t 2)⟩,
    ⟨(some 17), none, .call (.c (.fn (.func 29) [] [])) [(.t 16)]⟩,
    ⟨(some 18), none, .un .not (.t 17)⟩])
  (.cond (.t 18)
   (.seq (.ops [⟨(some 4), none, .move (.c (.sl true .full 0 []))⟩,
     ⟨(some 5), none, .move (.c (.sc (.int .i64 (24))))⟩])
   (.ret))
   (.skip)))
  (.seq (.ops [⟨(some 20), none, .load (some 6) (.t 2)⟩,
    ⟨(some 21), none, .move (.t 1)⟩,
    ⟨(some 22), none, .call (.c (.fn (.func 98) [] [])) [(.t 20), (.t 21)]⟩,
    ⟨(some 19), none, .move (.t 22)⟩,
    ⟨(some 23), none, .extract 0 (.t 19)⟩,
    ⟨(some 24), none, .extract 1 (.t 19)⟩,
    ⟨(some 25), none, .extract 2 (.t 19)⟩,
    ⟨(some 6), none, .move (.t 23)⟩,
    ⟨(some 7), none, .move (.t 24)⟩,
    ⟨(some 8), none, .move (.t 25)⟩])
  (.seq (.seq (.ops [⟨(some 26), none, .move (.t 8)⟩,
    ⟨(some 27), none, .bin .neq (.t 26) (.c (.sc (.int .i64 (0))))⟩])
  (.cond (.t 27)
   (.seq (.ops [⟨(some 4), none, .move (.c (.sl true .full 0 []))⟩,
     ⟨(some 5), none, .move (.c (.sc (.int .i64 (2))))⟩])
   (.ret))
   (.skip)))
  (.seq (.ops [⟨(some 28), none, .faddr 2 (.t 2)⟩,
    ⟨(some 29), none, .load none (.t 28)⟩,
    ⟨(some 30), none, .move (.t 6)⟩,
    ⟨(some 31), none, .iaddrS 6 (.t 29) (.t 30)⟩,
    ⟨(some 32), none, .load (some 6) (.t 31)⟩,
    ⟨(some 9), none, .alloc [(.sc (.int .i64 (0))), (.sc (.int .i64 (0))), (.sc (.string ⟨#[]⟩)), (.sc (.int .i64 (0))), (.sc (.int .i64 (0))), (.sl true .full 0 [])]⟩,
    ⟨none, none, .store 6 (.t 9) (.t 32)⟩])
  (.seq (.ops [⟨(some 33), none, .faddr 5 (.t 9)⟩,
    ⟨(some 34), none, .load none (.t 33)⟩,
    ⟨(some 35), none, .move (.t 7)⟩,
    ⟨(some 36), none, .iaddrS 3 (.t 34) (.t 35)⟩,
    ⟨(some 37), none, .faddr 2 (.t 36)⟩,
    ⟨(some 38), none, .load none (.t 37)⟩,
    ⟨(some 10), none, .move (.t 38)⟩])
  (.seq (.ops [⟨(some 11), none, .move (.c (.sl true .full 0 []))⟩])
  (.seq (.seq (.ops [⟨(some 39), none, .faddr 3 (.t 2)⟩,
    ⟨(some 40), none, .load none (.t 39)⟩,
    ⟨(some 41), none, .len (.t 40)⟩,
    ⟨(some 42), none, .move (.c (.sc (.int .i64 (0))))⟩])
  (.block 0 (.loop (.seq (.ops [⟨(some 43), none, .bin .lss (.t 42) (.t 41)⟩])
    (.seq (.cond (.t 43)
     (.skip)
     (.exit 0))
    (.seq (.block 1 (.seq (.ops [⟨(some 44), none, .iaddrS 22 (.t 40) (.t 42)⟩,
       ⟨(some 45), none, .load (some 22) (.t 44)⟩,
       ⟨(some 13), none, .alloc [(.sc (.int .i64 (0))), (.sc (.int .i64 (0))), (.sc (.int .i64 (0))), (.sc (.int .i64 (0))), (.sc (.int .i64 (0))), (.sc (.int .i64 (0))), (.sc (.int .i64 (0))), (.sc (.int .i64 (0))), (.sc (.int .i64 (0))), (.sc (.int .i64 (0))), (.sc (.int .i64 (0))), (.sc (.int .i64 (0))), (.sc (.bool false)), (.sc (.int .i64 (0))), (.sc (.int .i64 (0))), (.sc (.int .i64 (0))), (.sc (.int .i64 (0))), (.sc (.int .i64 (0))), (.sc (.int .i64 (0))), (.sc (.string ⟨#[]⟩)), (.sl true .full 0 []), (.sl true .full 0 [])]⟩,
       ⟨none, none, .store 22 (.t 13) (.t 45)⟩])
     (.seq (.ops [⟨(some 46), none, .faddr 11 (.t 13)⟩,
       ⟨(some 47), none, .load none (.t 46)⟩,
       ⟨(some 48), none, .faddr 2 (.t 13)⟩,
       ⟨(some 49), none, .load (some 8) (.t 48)⟩,
       ⟨(some 50), none, .build [(.sc (.int .i64 (0))), (.sc (.int .i64 (0))), (.sc (.int .i64 (0))), (.sc (.int .i64 (0))), (.sc (.int .i64 (0))), (.sc (.int .i64 (0))), (.sc (.int .i64 (0))), (.sc (.int .i64 (0))), (.sc (.int .i64 (0))), (.sc (.int .i64 (0)))] [((1, 1), (.t 47)), ((2, 8), (.t 49))]⟩,
       ⟨(some 14), none, .alloc [(.sc (.int .i64 (0))), (.sc (.int .i64 (0))), (.sc (.int .i64 (0))), (.sc (.int .i64 (0))), (.sc (.int .i64 (0))), (.sc (.int .i64 (0))), (.sc (.int .i64 (0))), (.sc (.int .i64 (0))), (.sc (.int .i64 (0))), (.sc (.int .i64 (0)))]⟩,
       ⟨none, none, .store 10 (.t 14) (.t 50)⟩])
     (.seq (.seq (.ops [⟨(some 52), none, .load (some 22) (.t 13)⟩,
       ⟨(some 53), none, .move (.t 1)⟩,
       ⟨(some 54), none, .move (.t 10)⟩,
       ⟨(some 55), none, .call (.c (.fn (.func 110) [] [])) [(.t 52), (.t 53), (.t 54), (.c (.sc (.int .i64 (0))))]⟩,
       ⟨(some 51), none, .move (.t 55)⟩,
       ⟨(some 56), none, .extract 0 (.t 51)⟩,
       ⟨(some 57), none, .extract 1 (.t 51)⟩,
       ⟨(some 58), none, .faddr 0 (.t 14)⟩,
       ⟨none, none, .store 1 (.t 58) (.t 56)⟩,
       ⟨(some 8), none, .move (.t 57)⟩])
     (.seq (.ops [⟨(some 59), none, .move (.t 8)⟩,
       ⟨(some 60), none, .bin .neq (.t 59) (.c (.sc (.int .i64 (0))))⟩])
     (.cond (.t 60)
      (.seq (.ops [⟨(some 61), none, .move (.t 8)⟩,
        ⟨(some 4), none, .move (.c (.sl true .full 0 []))⟩,
        ⟨(some 5), none, .move (.t 61)⟩])
      (.ret))
      (.skip))))
     (.seq (.seq (.ops [⟨(some 62), none, .faddr 1 (.t 2)⟩,
       ⟨(some 63), none, .load none (.t 62)⟩])
     (.cond (.t 63)
      (.seq (.ops [⟨(some 65), none, .faddr 11 (.t 13)⟩,
        ⟨(some 66), none, .load none (.t 65)⟩,
        ⟨(some 67), none, .faddr 3 (.t 9)⟩,
        ⟨(some 68), none, .load (some 2) (.t 67)⟩,
        ⟨(some 69), none, .call (.c (.fn (.func 111) [] [])) [(.t 66), (.t 68)]⟩,
        ⟨(some 64), none, .move (.t 69)⟩,
        ⟨(some 70), none, .extract 0 (.t 64)⟩,
        ⟨(some 71), none, .extract 1 (.t 64)⟩,
        ⟨(some 72), none, .faddr 1 (.t 14)⟩,
        ⟨none, none, .store 1 (.t 72) (.t 70)⟩,
        ⟨(some 8), none, .move (.t 71)⟩])
      (.seq (.ops [⟨(some 73), none, .move (.t 8)⟩,
        ⟨(some 74), none, .bin .neq (.t 73) (.c (.sc (.int .i64 (0))))⟩])
      (.cond (.t 74)
       (.seq (.ops [⟨(some 75), none, .move (.t 8)⟩,
         ⟨(some 4), none, .move (.c (.sl true .full 0 []))⟩,
         ⟨(some 5), none, .move (.t 75)⟩])
       (.ret))
       (.skip))))
      (.skip)))
     (.seq (.ops [⟨(some 76), none, .move (.t 11)⟩,
       ⟨(some 77), none, .load (some 10) (.t 14)⟩,
       ⟨(some 78), none, .buildSl 10 [(.t 77)]⟩,
       ⟨(some 79), none, .append 10 80 (.t 76) (.t 78)⟩,
       ⟨(some 11), none, .move (.t 79)⟩])
     (.seq (.ops [⟨(some 80), none, .faddr 0 (.t 14)⟩,
       ⟨(some 81), none, .load none (.t 80)⟩,
       ⟨(some 10), none, .move (.t 81)⟩])
     (.seq (.ops [⟨(some 82), none, .faddr 21 (.t 13)⟩,
       ⟨(some 83), none, .load none (.t 82)⟩,
       ⟨(some 84), none, .move (.t 1)⟩,
       ⟨(some 85), none, .iaddrS 2 (.t 83) (.t 84)⟩,
       ⟨(some 86), none, .faddr 0 (.t 85)⟩,
       ⟨(some 87), none, .load none (.t 86)⟩,
       ⟨(some 15), none, .move (.t 87)⟩])
     (.seq (.ops [⟨(some 88), none, .move (.t 15)⟩,
       ⟨(some 89), none, .len (.t 88)⟩,
       ⟨(some 90), none, .bin .gtr (.t 89) (.c (.sc (.int .i64 (0))))⟩])
     (.cond (.t 90)
      (.ops [⟨(some 91), none, .move (.t 15)⟩,
        ⟨(some 92), none, .move (.t 15)⟩,
        ⟨(some 93), none, .len (.t 92)⟩,
        ⟨(some 94), none, .bin .sub (.t 93) (.c (.sc (.int .i64 (1))))⟩,
        ⟨(some 95), none, .iaddrS 2 (.t 91) (.t 94)⟩,
        ⟨(some 96), none, .faddr 1 (.t 95)⟩,
        ⟨(some 97), none, .load none (.t 96)⟩,
        ⟨(some 10), none, .move (.t 97)⟩])
      (.skip)))))))))))
    (.ops [⟨(some 98), none, .bin .add (.t 42) (.c (.sc (.int .i64 (1))))⟩,
      ⟨(some 42), none, .move (.t 98)⟩])))))))
  (.seq (.ops [⟨(some 99), none, .move (.t 11)⟩,
    ⟨(some 4), none, .move (.t 99)⟩,
    ⟨(some 5), none, .move (.c (.sc (.int .i64 (0))))⟩])
  (.ret))))))))),
  [.t 4, .t 5]⟩
theorem ok57 : EntryOk Tryz.prog 57 af57 := ⟨Tryz.f57, _, Tryz.func57, by decide, rfl, by kernel_rfl, by kernel_rfl, rfl⟩
/-- hemiola/ornament.Neighbours -/
noncomputable def af61 : AF := ⟨65, .seq (.ops [⟨(some 2), none, .box (.t 0)⟩,
    ⟨(some 4), none, .move (.c (.sc (.int .i64 (0))))⟩,
    ⟨(some 5), none, .move (.c (.sc (.int .i64 (0))))⟩,
    ⟨(some 6), none, .move (.c (.sc (.int .i64 (0))))⟩])
  (.seq (.ops [⟨(some 16), none, .load (some 3) (.t 2)⟩,
    ⟨(some 17), none, .call (.c (.fn (.func 117) [] [])) [(.t 16)]⟩,
    ⟨(some 15), none, .move (.t 17)⟩,
    ⟨(some 18), none, .extract 0 (.t 15)⟩,
    ⟨(some 19), none, .extract 1 (.t 15)⟩,
    ⟨(some 7), none, .move (.t 18)⟩,
    ⟨(some 6), none, .move (.t 19)⟩])
  (.seq (.seq (.ops [⟨(some 20), none, .move (.t 6)⟩,
    ⟨(some 21), none, .bin .neq (.t 20) (.c (.sc (.int .i64 (0))))⟩])
  (.cond (.t 21)
   (.seq (.ops [⟨(some 22), none, .move (.t 6)⟩,
     ⟨(some 4), none, .move (.c (.sc (.int .i64 (0))))⟩,
     ⟨(some 5), none, .move (.c (.sc (.int .i64 (0))))⟩,
     ⟨(some 6), none, .move (.t 22)⟩])
   (.ret))
   (.skip)))
  (.seq (.seq (.ops [⟨(some 23), none, .move (.t 1)⟩,
    ⟨(some 24), none, .call (.c (.fn (.func 118) [] [])) [(.t 23)]⟩,
    ⟨(some 8), none, .move (.t 24)⟩])
  (.seq (.ops [⟨(some 25), none, .move (.t 8)⟩,
    ⟨(some 26), none, .bin .neq (.t 25) (.c (.sc (.int .i64 (0))))⟩])
  (.cond (.t 26)
   (.seq (.ops [⟨(some 27), none, .move (.t 8)⟩,
     ⟨(some 4), none, .move (.c (.sc (.int .i64 (0))))⟩,
     ⟨(some 5), none, .move (.c (.sc (.int .i64 (0))))⟩,
     ⟨(some 6), none, .move (.t 27)⟩])
   (.ret))
   (.skip))))
  (.seq (.ops [⟨(some 29), none, .load (some 3) (.t 2)⟩,
    ⟨(some 30), none, .call (.c (.fn (.func 119) [] [])) [(.t 29)]⟩,
    ⟨(some 28), none, .move (.t 30)⟩,
    ⟨(some 31), none, .extract 0 (.t 28)⟩,
    ⟨(some 32), none, .extract 1 (.t 28)⟩,
    ⟨(some 9), none, .move (.t 31)⟩,
    ⟨(some 10), none, .move (.t 32)⟩])
  (.seq (.ops [⟨(some 34), none, .move (.t 1)⟩,
    ⟨(some 35), none, .faddr 0 (.t 2)⟩,
    ⟨(some 36), none, .load none (.t 35)⟩,
    ⟨(some 37), none, .bin .add (.t 36) (.c (.sc (.int .i64 (1))))⟩,
    ⟨(some 38), none, .bin .rem (.t 37) (.c (.sc (.int .i64 (7))))⟩,
    ⟨(some 39), none, .call (.c (.fn (.func 120) [] [])) [(.t 34), (.t 38)]⟩,
    ⟨(some 33), none, .move (.t 39)⟩,
    ⟨(some 40), none, .extract 0 (.t 33)⟩,
    ⟨(some 41), none, .extract 1 (.t 33)⟩,
    ⟨(some 11), none, .move (.t 40)⟩,
    ⟨(some 12), none, .move (.t 41)⟩])
  (.seq (.ops [⟨(some 43), none, .move (.t 1)⟩,
    ⟨(some 44), none, .faddr 0 (.t 2)⟩,
    ⟨(some 45), none, .load none (.t 44)⟩,
    ⟨(some 46), none, .bin .add (.t 45) (.c (.sc (.int .i64 (6))))⟩,
    ⟨(some 47), none, .bin .rem (.t 46) (.c (.sc (.int .i64 (7))))⟩,
    ⟨(some 48), none, .call (.c (.fn (.func 120) [] [])) [(.t 43), (.t 47)]⟩,
    ⟨(some 42), none, .move (.t 48)⟩,
    ⟨(some 49), none, .extract 0 (.t 42)⟩,
    ⟨(some 50), none, .extract 1 (.t 42)⟩,
    ⟨(some 13), none, .move (.t 49)⟩,
    ⟨(some 14), none, .move (.t 50)⟩])
  (.seq (.ops [⟨(some 51), none, .move (.t 9)⟩,
    ⟨(some 52), none, .bin .add (.t 51) (.c (.sc (.int .i64 (1))))⟩,
    ⟨(some 53), none, .move (.t 11)⟩,
    ⟨(some 54), none, .call (.c (.fn (.func 121) [] [])) [(.t 52), (.t 53)]⟩,
    ⟨(some 55), none, .move (.t 7)⟩,
    ⟨(some 56), none, .bin .sub (.t 54) (.t 55)⟩,
    ⟨(some 57), none, .mm true [(.c (.sc (.int .i64 (1)))), (.t 56)]⟩,
    ⟨(some 58), none, .move (.t 9)⟩,
    ⟨(some 59), none, .bin .sub (.t 58) (.c (.sc (.int .i64 (1))))⟩,
    ⟨(some 60), none, .move (.t 13)⟩,
    ⟨(some 61), none, .call (.c (.fn (.func 121) [] [])) [(.t 59), (.t 60)]⟩,
    ⟨(some 62), none, .move (.t 7)⟩,
    ⟨(some 63), none, .bin .sub (.t 61) (.t 62)⟩,
    ⟨(some 64), none, .mm false [(.c (.sc (.int .i64 (-1)))), (.t 63)]⟩,
    ⟨(some 4), none, .move (.t 57)⟩,
    ⟨(some 5), none, .move (.t 64)⟩,
    ⟨(some 6), none, .move (.c (.sc (.int .i64 (0))))⟩])
  (.ret)))))))),
  [.t 4, .t 5, .t 6]⟩
theorem ok61 : EntryOk Tryz.prog 61 af61 := ⟨Tryz.f61, _, Tryz.func61, by decide, rfl, by kernel_rfl, by kernel_rfl, rfl⟩
/-- slices.SortFunc[[]hemiola/perform.place,hemiola/perform.place] -/
noncomputable def af65 : AF := ⟨14, .seq (.ops [⟨(some 5), none, .move (.t 0)⟩,
    ⟨(some 6), none, .len (.t 5)⟩,
    ⟨(some 4), none, .move (.t 6)⟩])
  (.ops [⟨(some 7), none, .move (.t 0)⟩,
    ⟨(some 8), none, .move (.t 4)⟩,
    ⟨(some 9), none, .move (.t 4)⟩,
    ⟨(some 10), none, .convI .u64 (.t 9)⟩,
    ⟨(some 11), none, .call (.c (.fn (.func 126) [] [])) [(.t 10)]⟩,
    ⟨(some 12), none, .move (.t 1)⟩,
    ⟨(some 13), none, .call (.c (.fn (.func 125) [] [])) [(.t 7), (.c (.sc (.int .i64 (0)))), (.t 8), (.t 11), (.t 12)]⟩]),
  []⟩
theorem ok65 : EntryOk Tryz.prog 65 af65 := ⟨Tryz.f65, _, Tryz.func65, by decide, rfl, by kernel_rfl, by kernel_rfl, rfl⟩
/-- hemiola/perform.levels$3$1 -/
noncomputable def af71 : AF := ⟨12, .seq (.ops [⟨(some 4), none, .move (.c (.sc (.bool false)))⟩])
  (.seq (.draw [⟨false, [1], [], ⟨(some 5), none, .load none (.t 1)⟩⟩,
    ⟨false, [0], [], ⟨(some 6), none, .move (.t 0)⟩⟩,
    ⟨false, [5, 6], [], ⟨(some 7), none, .iaddrS 18 (.t 5) (.t 6)⟩⟩,
    ⟨false, [7], [], ⟨(some 8), none, .faddr 16 (.t 7)⟩⟩,
    ⟨false, [8], [], ⟨(some 9), none, .load none (.t 8)⟩⟩,
    ⟨false, [2], [], ⟨(some 10), none, .load none (.t 2)⟩⟩]
    [⟨(some 11), none, .bin .gtr (.t 9) (.t 10)⟩,
    ⟨(some 4), none, .move (.t 11)⟩])
  (.ret)),
  [.t 4]⟩
theorem ok71 : EntryOk Tryz.prog 71 af71 := ⟨Tryz.f71, _, Tryz.func71, by decide, rfl, by kernel_rfl, by kernel_rfl, rfl⟩
/-- (*hemiola/check.checker).structure -/
noncomputable def af77 : AF := ⟨11, .seq (.ops [⟨(some 3), none, .move (.t 0)⟩,
    ⟨(some 4), none, .nilCheck (.t 3)⟩,
    ⟨(some 5), none, .faddr 0 (.t 4)⟩,
    ⟨(some 6), none, .load (some 6) (.t 5)⟩,
    ⟨(some 7), none, .call (.c (.fn (.func 97) [] [])) [(.t 6)]⟩,
    ⟨(some 2), none, .alloc [(.sc (.int .i64 (0)))]⟩,
    ⟨none, none, .store 1 (.t 2) (.t 7)⟩])
  (.ops [⟨(some 8), none, .move (.t 0)⟩,
    ⟨(some 9), none, .mkFn (.func 137) [] [(.t 2)]⟩,
    ⟨(some 10), none, .call (.c (.fn (.func 136) [] [])) [(.t 8), (.t 9)]⟩]),
  []⟩
theorem ok77 : EntryOk Tryz.prog 77 af77 := ⟨Tryz.f77, _, Tryz.func77, by decide, rfl, by kernel_rfl, by kernel_rfl, rfl⟩
/-- (*hemiola/check.checker).tuplets -/
noncomputable def af81 : AF := ⟨4, .ops [⟨(some 2), none, .move (.t 0)⟩,
    ⟨(some 3), none, .call (.c (.fn (.func 141) [] [])) [(.t 2), (.c (.fn (.func 143) [] []))]⟩],
  []⟩
theorem ok81 : EntryOk Tryz.prog 81 af81 := ⟨Tryz.f81, _, Tryz.func81, by decide, rfl, by kernel_rfl, by kernel_rfl, rfl⟩
/-- (*hemiola/check.checker).lyrics -/
noncomputable def af85 : AF := ⟨35, .seq (.ops [⟨(some 7), none, .mkMap⟩,
    ⟨(some 2), none, .alloc [(.sc (.map none))]⟩,
    ⟨none, none, .store 1 (.t 2) (.t 7)⟩])
  (.seq (.ops [⟨(some 8), none, .move (.t 0)⟩,
    ⟨(some 9), none, .nilCheck (.t 8)⟩,
    ⟨(some 10), none, .faddr 0 (.t 9)⟩,
    ⟨(some 11), none, .load (some 6) (.t 10)⟩,
    ⟨(some 12), none, .call (.c (.fn (.func 97) [] [])) [(.t 11)]⟩,
    ⟨(some 3), none, .move (.t 12)⟩])
  (.seq (.seq (.ops [⟨(some 13), none, .move (.t 3)⟩,
    ⟨(some 14), none, .move (.c (.sc (.int .i64 (0))))⟩])
  (.block 0 (.loop (.seq (.ops [⟨(some 15), none, .bin .lss (.t 14) (.t 13)⟩])
    (.seq (.cond (.t 15)
     (.skip)
     (.exit 0))
    (.seq (.block 1 (.seq (.ops [⟨(some 16), none, .move (.t 14)⟩,
       ⟨(some 4), none, .move (.t 16)⟩])
     (.seq (.ops [⟨(some 17), none, .move (.c (.sc (.int .i64 (0))))⟩])
     (.block 2 (.loop (.seq (.ops [⟨(some 18), none, .bin .lss (.t 17) (.c (.sc (.int .i64 (2))))⟩])
       (.seq (.cond (.t 18)
        (.skip)
        (.exit 2))
       (.seq (.block 3 (.seq (.ops [⟨(some 19), none, .move (.t 17)⟩,
          ⟨(some 5), none, .move (.t 19)⟩])
        (.seq (.ops [⟨(some 20), none, .move (.c (.sc (.int .i64 (0))))⟩])
        (.block 4 (.loop (.seq (.ops [⟨(some 21), none, .bin .lss (.t 20) (.c (.sc (.int .i64 (4))))⟩])
          (.seq (.cond (.t 21)
           (.skip)
           (.exit 4))
          (.seq (.block 5 (.seq (.ops [⟨(some 22), none, .move (.t 20)⟩,
             ⟨(some 6), none, .move (.t 22)⟩])
           (.ops [⟨(some 23), none, .move (.t 0)⟩,
             ⟨(some 24), none, .move (.t 4)⟩,
             ⟨(some 25), none, .move (.t 5)⟩,
             ⟨(some 26), none, .move (.t 6)⟩,
             ⟨(some 27), none, .load none (.t 2)⟩,
             ⟨(some 28), none, .call (.c (.fn (.func 158) [] [])) [(.t 23), (.t 24), (.t 25), (.t 26), (.t 27)]⟩])))
          (.ops [⟨(some 29), none, .bin .add (.t 20) (.c (.sc (.int .i64 (1))))⟩,
            ⟨(some 20), none, .move (.t 29)⟩])))))))))
       (.ops [⟨(some 30), none, .bin .add (.t 17) (.c (.sc (.int .i64 (1))))⟩,
         ⟨(some 17), none, .move (.t 30)⟩])))))))))
    (.ops [⟨(some 31), none, .bin .add (.t 14) (.c (.sc (.int .i64 (1))))⟩,
      ⟨(some 14), none, .move (.t 31)⟩])))))))
  (.ops [⟨(some 32), none, .move (.t 0)⟩,
    ⟨(some 33), none, .mkFn (.func 159) [] [(.t 2)]⟩,
    ⟨(some 34), none, .call (.c (.fn (.func 144) [] [])) [(.t 32), (.t 33)]⟩]))),
  []⟩
theorem ok85 : EntryOk Tryz.prog 85 af85 := ⟨Tryz.f85, _, Tryz.func85, by decide, rfl, by kernel_rfl, by kernel_rfl, rfl⟩
/-- (*hemiola/check.checker).jumps -/
noncomputable def af89 : AF := ⟨5, .seq (.ops [⟨(some 1), none, .box (.t 0)⟩])
  (.ops [⟨(some 2), none, .load none (.t 1)⟩,
    ⟨(some 3), none, .mkFn (.func 165) [] [(.t 1)]⟩,
    ⟨(some 4), none, .call (.c (.fn (.func 136) [] [])) [(.t 2), (.t 3)]⟩]),
  []⟩
theorem ok89 : EntryOk Tryz.prog 89 af89 := ⟨Tryz.f89, _, Tryz.func89, by decide, rfl, by kernel_rfl, by kernel_rfl, rfl⟩
/-- hemiola/unfold.groups -/
noncomputable def af93 : AF := ⟨153, .seq (.ops [⟨(some 1), none, .box (.t 0)⟩,
    ⟨(some 2), none, .move (.c (.sl true .full 0 []))⟩])
  (.seq (.ops [⟨(some 3), none, .move (.c (.sl true .full 0 []))⟩])
  (.seq (.ops [⟨(some 4), none, .move (.c (.sc (.int .i64 (0))))⟩])
  (.seq (.seq (.ops [⟨(some 5), none, .move (.c (.sc (.int .i64 (0))))⟩])
  (.block 0 (.loop (.seq (.seq (.ops [⟨(some 10), none, .move (.t 5)⟩,
      ⟨(some 11), none, .faddr 3 (.t 1)⟩,
      ⟨(some 12), none, .load none (.t 11)⟩,
      ⟨(some 13), none, .len (.t 12)⟩,
      ⟨(some 14), none, .bin .lss (.t 10) (.t 13)⟩])
    (.cond (.t 14)
     (.skip)
     (.exit 0)))
    (.seq (.block 1 (.seq (.ops [⟨(some 17), none, .faddr 3 (.t 1)⟩,
       ⟨(some 18), none, .load none (.t 17)⟩,
       ⟨(some 19), none, .move (.t 5)⟩,
       ⟨(some 20), none, .iaddrS 22 (.t 18) (.t 19)⟩,
       ⟨(some 21), none, .load (some 22) (.t 20)⟩,
       ⟨(some 6), none, .alloc [(.sc (.int .i64 (0))), (.sc (.int .i64 (0))), (.sc (.int .i64 (0))), (.sc (.int .i64 (0))), (.sc (.int .i64 (0))), (.sc (.int .i64 (0))), (.sc (.int .i64 (0))), (.sc (.int .i64 (0))), (.sc (.int .i64 (0))), (.sc (.int .i64 (0))), (.sc (.int .i64 (0))), (.sc (.int .i64 (0))), (.sc (.bool false)), (.sc (.int .i64 (0))), (.sc (.int .i64 (0))), (.sc (.int .i64 (0))), (.sc (.int .i64 (0))), (.sc (.int .i64 (0))), (.sc (.int .i64 (0))), (.sc (.string ⟨#[]⟩)), (.sl true .full 0 []), (.sl true .full 0 [])]⟩,
       ⟨none, none, .store 22 (.t 6) (.t 21)⟩])
     (.block 2 (.seq (.ops [⟨(some 23), none, .faddr 14 (.t 6)⟩,
        ⟨(some 24), none, .load none (.t 23)⟩,
        ⟨(some 25), none, .bin .neq (.t 24) (.c (.sc (.int .i64 (0))))⟩,
        ⟨(some 22), none, .move (.t 25)⟩])
      (.cond (.t 22)
       (.seq (.ops [⟨(some 26), none, .move (.t 4)⟩,
         ⟨(some 27), none, .move (.t 5)⟩,
         ⟨(some 28), none, .build [(.sc (.int .i64 (0))), (.sc (.int .i64 (0)))] [((0, 1), (.t 26)), ((1, 1), (.t 27))]⟩,
         ⟨(some 29), none, .build [(.sc (.int .i64 (0))), (.sc (.int .i64 (0))), (.sl true .full 0 []), (.sc (.int .i64 (0)))] [((0, 2), (.t 28))]⟩,
         ⟨(some 7), none, .alloc [(.sc (.int .i64 (0))), (.sc (.int .i64 (0))), (.sl true .full 0 []), (.sc (.int .i64 (0)))]⟩,
         ⟨none, none, .store 4 (.t 7) (.t 29)⟩])
       (.seq (.ops [⟨(some 8), none, .move (.c (.sc (.int .i64 (0))))⟩])
       (.seq (.block 3 (.loop (.seq (.seq (.ops [⟨(some 30), none, .move (.t 5)⟩,
           ⟨(some 31), none, .faddr 3 (.t 1)⟩,
           ⟨(some 32), none, .load none (.t 31)⟩,
           ⟨(some 33), none, .len (.t 32)⟩,
           ⟨(some 34), none, .bin .lss (.t 30) (.t 33)⟩,
           ⟨(some 35), none, .move (.t 34)⟩,
           ⟨(some 36), (some (35, true)), .faddr 3 (.t 1)⟩,
           ⟨(some 37), (some (35, true)), .load none (.t 36)⟩,
           ⟨(some 38), (some (35, true)), .move (.t 5)⟩,
           ⟨(some 39), (some (35, true)), .iaddrS 22 (.t 37) (.t 38)⟩,
           ⟨(some 40), (some (35, true)), .faddr 14 (.t 39)⟩,
           ⟨(some 41), (some (35, true)), .load none (.t 40)⟩,
           ⟨(some 42), (some (35, true)), .bin .neq (.t 41) (.c (.sc (.int .i64 (0))))⟩,
           ⟨(some 43), none, .pick (.t 35) (.t 42) (.c (.sc (.bool false)))⟩])
         (.cond (.t 43)
          (.skip)
          (.exit 3)))
         (.block 4 (.seq (.ops [⟨(some 44), none, .move (.t 5)⟩,
            ⟨(some 45), none, .move (.t 5)⟩,
            ⟨(some 46), none, .build [(.sc (.int .i64 (0))), (.sc (.int .i64 (0)))] [((0, 1), (.t 44)), ((1, 1), (.t 45))]⟩,
            ⟨(some 47), none, .faddr 3 (.t 1)⟩,
            ⟨(some 48), none, .load none (.t 47)⟩,
            ⟨(some 49), none, .move (.t 5)⟩,
            ⟨(some 50), none, .iaddrS 22 (.t 48) (.t 49)⟩,
            ⟨(some 51), none, .faddr 14 (.t 50)⟩,
            ⟨(some 52), none, .load none (.t 51)⟩,
            ⟨(some 53), none, .build [(.sc (.int .i64 (0))), (.sc (.int .i64 (0))), (.sc (.int .i64 (0)))] [((0, 2), (.t 46)), ((2, 1), (.t 52))]⟩,
            ⟨(some 9), none, .alloc [(.sc (.int .i64 (0))), (.sc (.int .i64 (0))), (.sc (.int .i64 (0)))]⟩,
            ⟨none, none, .store 3 (.t 9) (.t 53)⟩])
          (.seq (.block 5 (.loop (.seq (.seq (.draw [⟨false, [9], [], ⟨(some 54), none, .faddr 0 (.t 9)⟩⟩,
              ⟨false, [54], [], ⟨(some 55), none, .faddr 1 (.t 54)⟩⟩,
              ⟨false, [55], [], ⟨(some 56), none, .load none (.t 55)⟩⟩,
              ⟨false, [1], [], ⟨(some 57), none, .faddr 3 (.t 1)⟩⟩,
              ⟨false, [57], [], ⟨(some 58), none, .load none (.t 57)⟩⟩,
              ⟨false, [58], [], ⟨(some 59), none, .len (.t 58)⟩⟩,
              ⟨true, [56, 59], [], ⟨(some 60), none, .bin .lss (.t 56) (.t 59)⟩⟩,
              ⟨true, [60], [], ⟨(some 61), none, .move (.t 60)⟩⟩,
              ⟨false, [1, 61], [], ⟨(some 62), (some (61, true)), .faddr 3 (.t 1)⟩⟩,
              ⟨false, [62, 61], [], ⟨(some 63), (some (61, true)), .load none (.t 62)⟩⟩,
              ⟨false, [9, 61], [], ⟨(some 64), (some (61, true)), .faddr 0 (.t 9)⟩⟩,
              ⟨false, [64, 61], [], ⟨(some 65), (some (61, true)), .faddr 1 (.t 64)⟩⟩,
              ⟨false, [65, 61], [], ⟨(some 66), (some (61, true)), .load none (.t 65)⟩⟩,
              ⟨false, [63, 66, 61], [], ⟨(some 67), (some (61, true)), .iaddrS 22 (.t 63) (.t 66)⟩⟩,
              ⟨false, [67, 61], [], ⟨(some 68), (some (61, true)), .faddr 14 (.t 67)⟩⟩,
              ⟨false, [68, 61], [], ⟨(some 69), (some (61, true)), .load none (.t 68)⟩⟩,
              ⟨false, [9, 61], [], ⟨(some 70), (some (61, true)), .faddr 2 (.t 9)⟩⟩,
              ⟨false, [70, 61], [], ⟨(some 71), (some (61, true)), .load none (.t 70)⟩⟩]
              [⟨(some 72), (some (61, true)), .bin .eql (.t 69) (.t 71)⟩,
              ⟨(some 73), none, .pick (.t 61) (.t 72) (.c (.sc (.bool false)))⟩])
            (.cond (.t 73)
             (.skip)
             (.exit 5)))
            (.block 6 (.ops [⟨(some 74), none, .faddr 0 (.t 9)⟩,
               ⟨(some 75), none, .faddr 1 (.t 74)⟩,
               ⟨(some 76), none, .load none (.t 75)⟩,
               ⟨(some 77), none, .bin .add (.t 76) (.c (.sc (.int .i64 (1))))⟩,
               ⟨(some 78), none, .faddr 0 (.t 9)⟩,
               ⟨(some 79), none, .faddr 1 (.t 78)⟩,
               ⟨none, none, .store 1 (.t 79) (.t 77)⟩])))))
          (.seq (.ops [⟨(some 80), none, .faddr 2 (.t 7)⟩,
            ⟨(some 81), none, .load none (.t 80)⟩,
            ⟨(some 82), none, .load (some 3) (.t 9)⟩,
            ⟨(some 83), none, .buildSl 3 [(.t 82)]⟩,
            ⟨(some 84), none, .append 3 24 (.t 81) (.t 83)⟩,
            ⟨(some 85), none, .faddr 2 (.t 7)⟩,
            ⟨none, none, .store 1 (.t 85) (.t 84)⟩])
          (.seq (.ops [⟨(some 86), none, .move (.t 8)⟩,
            ⟨(some 87), none, .faddr 2 (.t 9)⟩,
            ⟨(some 88), none, .load none (.t 87)⟩,
            ⟨(some 89), none, .bin .or (.t 86) (.t 88)⟩,
            ⟨(some 8), none, .move (.t 89)⟩])
          (.ops [⟨(some 90), none, .faddr 0 (.t 9)⟩,
            ⟨(some 91), none, .faddr 1 (.t 90)⟩,
            ⟨(some 92), none, .load none (.t 91)⟩,
            ⟨(some 5), none, .move (.t 92)⟩])))))))))
       (.seq (.ops [⟨(some 93), none, .move (.t 8)⟩,
         ⟨(some 94), none, .convI .u64 (.t 93)⟩,
         ⟨(some 95), none, .call (.c (.fn (.func 171) [] [])) [(.t 94)]⟩,
         ⟨(some 96), none, .faddr 3 (.t 7)⟩,
         ⟨none, none, .store 1 (.t 96) (.t 95)⟩])
       (.seq (.ops [⟨(some 97), none, .move (.t 3)⟩,
         ⟨(some 98), none, .load (some 4) (.t 7)⟩,
         ⟨(some 99), none, .buildSl 4 [(.t 98)]⟩,
         ⟨(some 100), none, .append 4 48 (.t 97) (.t 99)⟩,
         ⟨(some 3), none, .move (.t 100)⟩])
       (.seq (.ops [⟨(some 101), none, .move (.t 5)⟩,
         ⟨(some 4), none, .move (.t 101)⟩])
       (.ops [⟨(some 102), none, .move (.t 5)⟩,
         ⟨(some 103), none, .bin .sub (.t 102) (.c (.sc (.int .i64 (1))))⟩,
         ⟨(some 5), none, .move (.t 103)⟩])))))))
       (.seq (.ops [⟨(some 105), none, .faddr 12 (.t 6)⟩,
         ⟨(some 106), none, .load none (.t 105)⟩,
         ⟨(some 107), none, .move (.t 106)⟩,
         ⟨(some 108), (some (107, true)), .move (.t 5)⟩,
         ⟨(some 109), (some (107, true)), .move (.t 4)⟩,
         ⟨(some 110), (some (107, true)), .bin .gtr (.t 108) (.t 109)⟩,
         ⟨(some 111), none, .pick (.t 107) (.t 110) (.c (.sc (.bool false)))⟩,
         ⟨(some 104), none, .move (.t 111)⟩])
       (.cond (.t 104)
        (.seq (.ops [⟨(some 112), none, .move (.t 3)⟩,
          ⟨(some 113), none, .move (.t 4)⟩,
          ⟨(some 114), none, .move (.t 5)⟩,
          ⟨(some 115), none, .build [(.sc (.int .i64 (0))), (.sc (.int .i64 (0)))] [((0, 1), (.t 113)), ((1, 1), (.t 114))]⟩,
          ⟨(some 116), none, .build [(.sc (.int .i64 (0))), (.sc (.int .i64 (0))), (.sl true .full 0 []), (.sc (.int .i64 (0)))] [((0, 2), (.t 115)), ((3, 1), (.c (.sc (.int .i64 (1)))))]⟩,
          ⟨(some 117), none, .buildSl 4 [(.t 116)]⟩,
          ⟨(some 118), none, .append 4 48 (.t 112) (.t 117)⟩,
          ⟨(some 3), none, .move (.t 118)⟩])
        (.seq (.ops [⟨(some 119), none, .move (.t 5)⟩,
          ⟨(some 4), none, .move (.t 119)⟩])
        (.ops [⟨(some 120), none, .move (.t 5)⟩,
          ⟨(some 121), none, .bin .sub (.t 120) (.c (.sc (.int .i64 (1))))⟩,
          ⟨(some 5), none, .move (.t 121)⟩])))
        (.seq (.ops [⟨(some 123), none, .faddr 13 (.t 6)⟩,
          ⟨(some 124), none, .load none (.t 123)⟩,
          ⟨(some 125), none, .bin .neq (.t 124) (.c (.sc (.int .i64 (0))))⟩,
          ⟨(some 122), none, .move (.t 125)⟩])
        (.cond (.t 122)
         (.seq (.ops [⟨(some 126), none, .move (.t 3)⟩,
           ⟨(some 127), none, .move (.t 4)⟩,
           ⟨(some 128), none, .move (.t 5)⟩,
           ⟨(some 129), none, .bin .add (.t 128) (.c (.sc (.int .i64 (1))))⟩,
           ⟨(some 130), none, .build [(.sc (.int .i64 (0))), (.sc (.int .i64 (0)))] [((0, 1), (.t 127)), ((1, 1), (.t 129))]⟩,
           ⟨(some 131), none, .faddr 13 (.t 6)⟩,
           ⟨(some 132), none, .load none (.t 131)⟩,
           ⟨(some 133), none, .build [(.sc (.int .i64 (0))), (.sc (.int .i64 (0))), (.sl true .full 0 []), (.sc (.int .i64 (0)))] [((0, 2), (.t 130)), ((3, 1), (.t 132))]⟩,
           ⟨(some 134), none, .buildSl 4 [(.t 133)]⟩,
           ⟨(some 135), none, .append 4 48 (.t 126) (.t 134)⟩,
           ⟨(some 3), none, .move (.t 135)⟩])
         (.ops [⟨(some 136), none, .move (.t 5)⟩,
           ⟨(some 137), none, .bin .add (.t 136) (.c (.sc (.int .i64 (1))))⟩,
           ⟨(some 4), none, .move (.t 137)⟩]))
         (.skip))))))))))
    (.ops [⟨(some 15), none, .move (.t 5)⟩,
      ⟨(some 16), none, .bin .add (.t 15) (.c (.sc (.int .i64 (1))))⟩,
      ⟨(some 5), none, .move (.t 16)⟩]))))))
  (.seq (.seq (.ops [⟨(some 138), none, .move (.t 4)⟩,
    ⟨(some 139), none, .faddr 3 (.t 1)⟩,
    ⟨(some 140), none, .load none (.t 139)⟩,
    ⟨(some 141), none, .len (.t 140)⟩,
    ⟨(some 142), none, .bin .lss (.t 138) (.t 141)⟩])
  (.cond (.t 142)
   (.ops [⟨(some 143), none, .move (.t 3)⟩,
     ⟨(some 144), none, .move (.t 4)⟩,
     ⟨(some 145), none, .faddr 3 (.t 1)⟩,
     ⟨(some 146), none, .load none (.t 145)⟩,
     ⟨(some 147), none, .len (.t 146)⟩,
     ⟨(some 148), none, .build [(.sc (.int .i64 (0))), (.sc (.int .i64 (0)))] [((0, 1), (.t 144)), ((1, 1), (.t 147))]⟩,
     ⟨(some 149), none, .build [(.sc (.int .i64 (0))), (.sc (.int .i64 (0))), (.sl true .full 0 []), (.sc (.int .i64 (0)))] [((0, 2), (.t 148)), ((3, 1), (.c (.sc (.int .i64 (1)))))]⟩,
     ⟨(some 150), none, .buildSl 4 [(.t 149)]⟩,
     ⟨(some 151), none, .append 4 48 (.t 143) (.t 150)⟩,
     ⟨(some 3), none, .move (.t 151)⟩])
   (.skip)))
  (.seq (.ops [⟨(some 152), none, .move (.t 3)⟩,
    ⟨(some 2), none, .move (.t 152)⟩])
  (.ret)))))),
  [.t 2]⟩
theorem ok93 : EntryOk Tryz.prog 93 af93 := ⟨Tryz.f93, _, Tryz.func93, by decide, rfl, by kernel_rfl, by kernel_rfl, rfl⟩
/-- hemiola/score.PartOf -/
noncomputable def af98 : AF := ⟨32, .seq (.ops [⟨(some 2), none, .box (.t 0)⟩,
    ⟨(some 4), none, .move (.c (.sc (.int .i64 (0))))⟩,
    ⟨(some 5), none, .move (.c (.sc (.int .i64 (0))))⟩,
    ⟨(some 6), none, .move (.c (.sc (.int .i64 (0))))⟩])
  (.seq (.seq (.ops [⟨(some 9), none, .move (.t 1)⟩,
    ⟨(some 10), none, .bin .lss (.t 9) (.c (.sc (.int .i64 (0))))⟩])
  (.cond (.t 10)
   (.seq (.ops [⟨(some 4), none, .move (.c (.sc (.int .i64 (0))))⟩,
     ⟨(some 5), none, .move (.c (.sc (.int .i64 (0))))⟩,
     ⟨(some 6), none, .move (.c (.sc (.int .i64 (2))))⟩])
   (.ret))
   (.skip)))
  (.seq (.seq (.ops [⟨(some 11), none, .faddr 2 (.t 2)⟩,
    ⟨(some 12), none, .load none (.t 11)⟩,
    ⟨(some 13), none, .len (.t 12)⟩,
    ⟨(some 14), none, .move (.c (.sc (.int .i64 (0))))⟩])
  (.block 0 (.loop (.seq (.ops [⟨(some 15), none, .bin .lss (.t 14) (.t 13)⟩])
    (.seq (.cond (.t 15)
     (.skip)
     (.exit 0))
    (.seq (.block 1 (.seq (.ops [⟨(some 16), none, .move (.t 14)⟩,
       ⟨(some 17), none, .iaddrS 6 (.t 12) (.t 14)⟩,
       ⟨(some 18), none, .load (some 6) (.t 17)⟩,
       ⟨(some 8), none, .alloc [(.sc (.int .i64 (0))), (.sc (.int .i64 (0))), (.sc (.string ⟨#[]⟩)), (.sc (.int .i64 (0))), (.sc (.int .i64 (0))), (.sl true .full 0 [])]⟩,
       ⟨(some 7), none, .move (.t 16)⟩,
       ⟨none, none, .store 6 (.t 8) (.t 18)⟩])
     (.seq (.seq (.ops [⟨(some 19), none, .move (.t 1)⟩,
       ⟨(some 20), none, .faddr 5 (.t 8)⟩,
       ⟨(some 21), none, .load none (.t 20)⟩,
       ⟨(some 22), none, .len (.t 21)⟩,
       ⟨(some 23), none, .bin .lss (.t 19) (.t 22)⟩])
     (.cond (.t 23)
      (.seq (.ops [⟨(some 24), none, .move (.t 7)⟩,
        ⟨(some 25), none, .move (.t 1)⟩,
        ⟨(some 4), none, .move (.t 24)⟩,
        ⟨(some 5), none, .move (.t 25)⟩,
        ⟨(some 6), none, .move (.c (.sc (.int .i64 (0))))⟩])
      (.ret))
      (.skip)))
     (.ops [⟨(some 26), none, .move (.t 1)⟩,
       ⟨(some 27), none, .faddr 5 (.t 8)⟩,
       ⟨(some 28), none, .load none (.t 27)⟩,
       ⟨(some 29), none, .len (.t 28)⟩,
       ⟨(some 30), none, .bin .sub (.t 26) (.t 29)⟩,
       ⟨(some 1), none, .move (.t 30)⟩]))))
    (.ops [⟨(some 31), none, .bin .add (.t 14) (.c (.sc (.int .i64 (1))))⟩,
      ⟨(some 14), none, .move (.t 31)⟩])))))))
  (.seq (.ops [⟨(some 4), none, .move (.c (.sc (.int .i64 (0))))⟩,
    ⟨(some 5), none, .move (.c (.sc (.int .i64 (0))))⟩,
    ⟨(some 6), none, .move (.c (.sc (.int .i64 (2))))⟩])
  (.ret)))),
  [.t 4, .t 5, .t 6]⟩
theorem ok98 : EntryOk Tryz.prog 98 af98 := ⟨Tryz.f98, _, Tryz.func98, by decide, rfl, by kernel_rfl, by kernel_rfl, rfl⟩
/-- slices.IndexFunc[[]hemiola/api.Bar,hemiola/api.Bar] -/
noncomputable def af103 : AF := ⟨19, .seq (.ops [⟨(some 4), none, .move (.c (.sc (.int .i64 (0))))⟩])
  (.seq (.seq (.ops [⟨(some 6), none, .move (.t 0)⟩,
    ⟨(some 7), none, .len (.t 6)⟩,
    ⟨(some 8), none, .move (.c (.sc (.int .i64 (0))))⟩])
  (.block 0 (.loop (.seq (.ops [⟨(some 9), none, .bin .lss (.t 8) (.t 7)⟩])
    (.seq (.cond (.t 9)
     (.skip)
     (.exit 0))
    (.seq (.block 1 (.seq (.ops [⟨(some 10), none, .move (.t 8)⟩,
       ⟨(some 5), none, .move (.t 10)⟩])
     (.seq (.ops [⟨(some 11), none, .move (.t 1)⟩,
       ⟨(some 12), none, .move (.t 0)⟩,
       ⟨(some 13), none, .move (.t 5)⟩,
       ⟨(some 14), none, .iaddrS 2 (.t 12) (.t 13)⟩,
       ⟨(some 15), none, .load (some 2) (.t 14)⟩,
       ⟨(some 16), none, .call (.t 11) [(.t 15)]⟩])
     (.cond (.t 16)
      (.seq (.ops [⟨(some 17), none, .move (.t 5)⟩,
        ⟨(some 4), none, .move (.t 17)⟩])
      (.ret))
      (.skip)))))
    (.ops [⟨(some 18), none, .bin .add (.t 8) (.c (.sc (.int .i64 (1))))⟩,
      ⟨(some 8), none, .move (.t 18)⟩])))))))
  (.seq (.ops [⟨(some 4), none, .move (.c (.sc (.int .i64 (-1))))⟩])
  (.ret))),
  [.t 4]⟩
theorem ok103 : EntryOk Tryz.prog 103 af103 := ⟨Tryz.f103, _, Tryz.func103, by decide, rfl, by kernel_rfl, by kernel_rfl, rfl⟩
/-- hemiola/metre.Length -/
noncomputable def af107 : AF := ⟨12, .seq (.ops [⟨(some 1), none, .box (.t 0)⟩,
    ⟨(some 2), none, .move (.c (.sc (.int .i64 (0))))⟩,
    ⟨(some 3), none, .move (.c (.sc (.int .i64 (0))))⟩])
  (.seq (.seq (.ops [⟨(some 5), none, .load (some 8) (.t 1)⟩,
    ⟨(some 6), none, .call (.c (.fn (.func 182) [] [])) [(.t 5)]⟩,
    ⟨(some 4), none, .move (.t 6)⟩])
  (.seq (.ops [⟨(some 7), none, .move (.t 4)⟩,
    ⟨(some 8), none, .bin .neq (.t 7) (.c (.sc (.int .i64 (0))))⟩])
  (.cond (.t 8)
   (.seq (.ops [⟨(some 9), none, .move (.t 4)⟩,
     ⟨(some 2), none, .move (.c (.sc (.int .i64 (0))))⟩,
     ⟨(some 3), none, .move (.t 9)⟩])
   (.ret))
   (.skip))))
  (.seq (.ops [⟨(some 10), none, .load (some 8) (.t 1)⟩,
    ⟨(some 11), none, .call (.c (.fn (.func 183) [] [])) [(.t 10)]⟩,
    ⟨(some 2), none, .move (.t 11)⟩,
    ⟨(some 3), none, .move (.c (.sc (.int .i64 (0))))⟩])
  (.ret))),
  [.t 2, .t 3]⟩
theorem ok107 : EntryOk Tryz.prog 107 af107 := ⟨Tryz.f107, _, Tryz.func107, by decide, rfl, by kernel_rfl, by kernel_rfl, rfl⟩
/-- (*hemiola/perform.player).time$1 -/
noncomputable def af112 : AF := ⟨14, .seq (.ops [⟨(some 4), none, .move (.c (.sc (.bool false)))⟩])
  (.seq (.draw [⟨false, [1], [], ⟨(some 5), none, .load none (.t 1)⟩⟩,
    ⟨false, [5], [], ⟨(some 6), none, .nilCheck (.t 5)⟩⟩,
    ⟨false, [6], [], ⟨(some 7), none, .faddr 7 (.t 6)⟩⟩,
    ⟨false, [7], [], ⟨(some 8), none, .load none (.t 7)⟩⟩,
    ⟨false, [0], [], ⟨(some 9), none, .move (.t 0)⟩⟩,
    ⟨false, [8, 9], [], ⟨(some 10), none, .iaddrS 1 (.t 8) (.t 9)⟩⟩,
    ⟨false, [10], [], ⟨(some 11), none, .load none (.t 10)⟩⟩,
    ⟨false, [2], [], ⟨(some 12), none, .load none (.t 2)⟩⟩]
    [⟨(some 13), none, .bin .gtr (.t 11) (.t 12)⟩,
    ⟨(some 4), none, .move (.t 13)⟩])
  (.ret)),
  [.t 4]⟩
theorem ok112 : EntryOk Tryz.prog 112 af112 := ⟨Tryz.f112, _, Tryz.func112, by decide, rfl, by kernel_rfl, by kernel_rfl, rfl⟩
/-- hemiola/event.CheckGraces -/
noncomputable def af116 : AF := ⟨34, .seq (.ops [⟨(some 2), none, .move (.c (.sc (.int .i64 (0))))⟩])
  (.seq (.seq (.ops [⟨(some 7), none, .move (.t 0)⟩,
    ⟨(some 8), none, .len (.t 7)⟩,
    ⟨(some 9), none, .bin .gtr (.t 8) (.c (.sc (.int .i64 (8))))⟩])
  (.cond (.t 9)
   (.seq (.ops [⟨(some 2), none, .move (.c (.sc (.int .i64 (9))))⟩])
   (.ret))
   (.skip)))
  (.seq (.seq (.ops [⟨(some 10), none, .move (.t 0)⟩,
    ⟨(some 11), none, .len (.t 10)⟩,
    ⟨(some 12), none, .move (.c (.sc (.int .i64 (0))))⟩])
  (.block 0 (.loop (.seq (.ops [⟨(some 13), none, .bin .lss (.t 12) (.t 11)⟩])
    (.seq (.cond (.t 13)
     (.skip)
     (.exit 0))
    (.seq (.block 1 (.seq (.ops [⟨(some 14), none, .iaddrS 5 (.t 10) (.t 12)⟩,
       ⟨(some 15), none, .load (some 5) (.t 14)⟩,
       ⟨(some 4), none, .alloc [(.sc (.int .i64 (0))), (.sc (.int .i64 (0))), (.sc (.int .i64 (0))), (.sc (.int .i64 (0))), (.sc (.bool false))]⟩,
       ⟨none, none, .store 5 (.t 4) (.t 15)⟩])
     (.seq (.seq (.ops [⟨(some 17), none, .faddr 0 (.t 4)⟩,
       ⟨(some 18), none, .load (some 3) (.t 17)⟩,
       ⟨(some 19), none, .call (.c (.fn (.func 188) [] [])) [(.t 18)]⟩,
       ⟨(some 16), none, .move (.t 19)⟩,
       ⟨(some 20), none, .extract 0 (.t 16)⟩,
       ⟨(some 21), none, .extract 1 (.t 16)⟩,
       ⟨(some 5), none, .move (.t 20)⟩,
       ⟨(some 6), none, .move (.t 21)⟩])
     (.seq (.ops [⟨(some 22), none, .move (.t 6)⟩,
       ⟨(some 23), none, .bin .neq (.t 22) (.c (.sc (.int .i64 (0))))⟩])
     (.cond (.t 23)
      (.seq (.ops [⟨(some 24), none, .move (.t 6)⟩,
        ⟨(some 2), none, .move (.t 24)⟩])
      (.ret))
      (.skip))))
     (.seq (.ops [⟨(some 25), none, .faddr 3 (.t 4)⟩,
       ⟨(some 26), none, .load none (.t 25)⟩,
       ⟨(some 27), none, .bin .lss (.t 26) (.c (.sc (.int .i64 (1))))⟩,
       ⟨(some 28), none, .move (.t 27)⟩,
       ⟨(some 29), (some (28, false)), .faddr 3 (.t 4)⟩,
       ⟨(some 30), (some (28, false)), .load none (.t 29)⟩,
       ⟨(some 31), (some (28, false)), .bin .gtr (.t 30) (.c (.sc (.int .i64 (6))))⟩,
       ⟨(some 32), none, .pick (.t 28) (.c (.sc (.bool true))) (.t 31)⟩])
     (.cond (.t 32)
      (.seq (.ops [⟨(some 2), none, .move (.c (.sc (.int .i64 (2))))⟩])
      (.ret))
      (.skip))))))
    (.ops [⟨(some 33), none, .bin .add (.t 12) (.c (.sc (.int .i64 (1))))⟩,
      ⟨(some 12), none, .move (.t 33)⟩])))))))
  (.seq (.ops [⟨(some 2), none, .move (.c (.sc (.int .i64 (0))))⟩])
  (.ret)))),
  [.t 2]⟩
theorem ok116 : EntryOk Tryz.prog 116 af116 := ⟨Tryz.f116, _, Tryz.func116, by decide, rfl, by kernel_rfl, by kernel_rfl, rfl⟩
/-- hemiola/key.Alter -/
noncomputable def af120 : AF := ⟨18, .seq (.ops [⟨(some 4), none, .move (.c (.sc (.int .i64 (0))))⟩,
    ⟨(some 5), none, .move (.c (.sc (.int .i64 (0))))⟩])
  (.seq (.seq (.ops [⟨(some 7), none, .move (.t 0)⟩,
    ⟨(some 8), none, .call (.c (.fn (.func 118) [] [])) [(.t 7)]⟩,
    ⟨(some 6), none, .move (.t 8)⟩])
  (.seq (.ops [⟨(some 9), none, .move (.t 6)⟩,
    ⟨(some 10), none, .bin .neq (.t 9) (.c (.sc (.int .i64 (0))))⟩])
  (.cond (.t 10)
   (.seq (.ops [⟨(some 11), none, .move (.t 6)⟩,
     ⟨(some 4), none, .move (.c (.sc (.int .i64 (0))))⟩,
     ⟨(some 5), none, .move (.t 11)⟩])
   (.ret))
   (.skip))))
  (.seq (.seq (.ops [⟨(some 12), none, .move (.t 1)⟩,
    ⟨(some 13), none, .call (.c (.fn (.func 191) [] [])) [(.t 12)]⟩,
    ⟨(some 14), none, .un .not (.t 13)⟩])
  (.cond (.t 14)
   (.seq (.ops [⟨(some 4), none, .move (.c (.sc (.int .i64 (0))))⟩,
     ⟨(some 5), none, .move (.c (.sc (.int .i64 (18))))⟩])
   (.ret))
   (.skip)))
  (.seq (.ops [⟨(some 15), none, .move (.t 0)⟩,
    ⟨(some 16), none, .move (.t 1)⟩,
    ⟨(some 17), none, .call (.c (.fn (.func 192) [] [])) [(.t 15), (.t 16)]⟩,
    ⟨(some 4), none, .move (.t 17)⟩,
    ⟨(some 5), none, .move (.c (.sc (.int .i64 (0))))⟩])
  (.ret)))),
  [.t 4, .t 5]⟩
theorem ok120 : EntryOk Tryz.prog 120 af120 := ⟨Tryz.f120, _, Tryz.func120, by decide, rfl, by kernel_rfl, by kernel_rfl, rfl⟩
/-- math/bits.Len -/
noncomputable def af126 : AF := ⟨8, .seq (.ops [⟨(some 2), none, .move (.c (.sc (.int .i64 (0))))⟩])
  (.seq (.cond (.c (.sc (.bool false)))
   (.seq (.ops [⟨(some 3), none, .move (.t 0)⟩,
     ⟨(some 4), none, .convI .u32 (.t 3)⟩,
     ⟨(some 5), none, .call (.c (.fn (.func 202) [] [])) [(.t 4)]⟩,
     ⟨(some 2), none, .move (.t 5)⟩])
   (.ret))
   (.skip))
  (.seq (.ops [⟨(some 6), none, .move (.t 0)⟩,
    ⟨(some 7), none, .call (.c (.fn (.func 203) [] [])) [(.t 6)]⟩,
    ⟨(some 2), none, .move (.t 7)⟩])
  (.ret))),
  [.t 2]⟩
theorem ok126 : EntryOk Tryz.prog 126 af126 := ⟨Tryz.f126, _, Tryz.func126, by decide, rfl, by kernel_rfl, by kernel_rfl, rfl⟩
/-- hemiola/check.within -/
noncomputable def af131 : AF := ⟨15, .seq (.ops [⟨(some 6), none, .move (.c (.sc (.bool false)))⟩])
  (.seq (.ops [⟨(some 7), none, .move (.t 0)⟩,
    ⟨(some 8), none, .move (.t 1)⟩,
    ⟨(some 9), none, .bin .geq (.t 7) (.t 8)⟩,
    ⟨(some 10), none, .move (.t 9)⟩,
    ⟨(some 11), (some (10, true)), .move (.t 0)⟩,
    ⟨(some 12), (some (10, true)), .move (.t 2)⟩,
    ⟨(some 13), (some (10, true)), .bin .leq (.t 11) (.t 12)⟩,
    ⟨(some 14), none, .pick (.t 10) (.t 13) (.c (.sc (.bool false)))⟩,
    ⟨(some 6), none, .move (.t 14)⟩])
  (.ret)),
  [.t 6]⟩
theorem ok131 : EntryOk Tryz.prog 131 af131 := ⟨Tryz.f131, _, Tryz.func131, by decide, rfl, by kernel_rfl, by kernel_rfl, rfl⟩
/-- hemiola/score.Last -/
noncomputable def af135 : AF := ⟨21, .seq (.ops [⟨(some 2), none, .box (.t 0)⟩,
    ⟨(some 4), none, .move (.c (.sc (.int .i64 (0))))⟩])
  (.seq (.seq (.ops [⟨(some 7), none, .faddr 5 (.t 2)⟩,
    ⟨(some 8), none, .load none (.t 7)⟩,
    ⟨(some 9), none, .len (.t 8)⟩,
    ⟨(some 10), none, .move (.c (.sc (.int .i64 (0))))⟩])
  (.block 0 (.loop (.seq (.ops [⟨(some 11), none, .bin .lss (.t 10) (.t 9)⟩])
    (.seq (.cond (.t 11)
     (.skip)
     (.exit 0))
    (.seq (.block 1 (.seq (.ops [⟨(some 12), none, .iaddrS 2 (.t 8) (.t 10)⟩,
       ⟨(some 13), none, .load (some 2) (.t 12)⟩,
       ⟨(some 6), none, .alloc [(.sc (.int .i64 (0))), (.sc (.int .i64 (0)))]⟩,
       ⟨none, none, .store 2 (.t 6) (.t 13)⟩])
     (.seq (.ops [⟨(some 14), none, .faddr 0 (.t 6)⟩,
       ⟨(some 15), none, .load none (.t 14)⟩,
       ⟨(some 16), none, .move (.t 1)⟩,
       ⟨(some 17), none, .bin .eql (.t 15) (.t 16)⟩])
     (.cond (.t 17)
      (.seq (.ops [⟨(some 18), none, .faddr 1 (.t 6)⟩,
        ⟨(some 19), none, .load none (.t 18)⟩,
        ⟨(some 4), none, .move (.t 19)⟩])
      (.ret))
      (.skip)))))
    (.ops [⟨(some 20), none, .bin .add (.t 10) (.c (.sc (.int .i64 (1))))⟩,
      ⟨(some 10), none, .move (.t 20)⟩])))))))
  (.seq (.ops [⟨(some 4), none, .move (.c (.sc (.int .i64 (0))))⟩])
  (.ret))),
  [.t 4]⟩
theorem ok135 : EntryOk Tryz.prog 135 af135 := ⟨Tryz.f135, _, Tryz.func135, by decide, rfl, by kernel_rfl, by kernel_rfl, rfl⟩
/-- (*hemiola/check.checker).clefs$1 -/
noncomputable def af139 : AF := ⟨70, .seq (.ops [⟨(some 3), none, .box (.t 1)⟩,
    ⟨(some 4), none, .move (.c (.sc (.bool false)))⟩])
  (.seq (.ops [⟨(some 13), none, .load (some 22) (.t 3)⟩,
    ⟨(some 14), none, .call (.c (.fn (.func 53) [] [])) [(.t 13)]⟩,
    ⟨(some 12), none, .move (.t 14)⟩,
    ⟨(some 15), none, .extract 0 (.t 12)⟩,
    ⟨(some 16), none, .extract 1 (.t 12)⟩,
    ⟨(some 5), none, .move (.t 15)⟩,
    ⟨(some 6), none, .move (.t 16)⟩])
  (.seq (.ops [⟨(some 7), none, .move (.c (.sc (.bool false)))⟩])
  (.seq (.seq (.ops [⟨(some 17), none, .faddr 21 (.t 3)⟩,
    ⟨(some 18), none, .load none (.t 17)⟩,
    ⟨(some 19), none, .len (.t 18)⟩,
    ⟨(some 20), none, .move (.c (.sc (.int .i64 (0))))⟩])
  (.block 0 (.loop (.seq (.ops [⟨(some 21), none, .bin .lss (.t 20) (.t 19)⟩])
    (.seq (.cond (.t 21)
     (.skip)
     (.exit 0))
    (.seq (.block 1 (.seq (.ops [⟨(some 22), none, .iaddrS 2 (.t 18) (.t 20)⟩,
       ⟨(some 23), none, .load (some 2) (.t 22)⟩,
       ⟨(some 9), none, .alloc [(.sl true .full 0 []), (.sl true .full 0 [])]⟩,
       ⟨none, none, .store 2 (.t 9) (.t 23)⟩])
     (.seq (.ops [⟨(some 24), none, .faddr 0 (.t 9)⟩,
       ⟨(some 25), none, .load none (.t 24)⟩,
       ⟨(some 26), none, .len (.t 25)⟩,
       ⟨(some 27), none, .move (.c (.sc (.int .i64 (0))))⟩])
     (.block 2 (.loop (.seq (.ops [⟨(some 28), none, .bin .lss (.t 27) (.t 26)⟩])
       (.seq (.cond (.t 28)
        (.skip)
        (.exit 2))
       (.seq (.block 3 (.seq (.ops [⟨(some 29), none, .move (.t 27)⟩,
          ⟨(some 30), none, .iaddrS 2 (.t 25) (.t 27)⟩,
          ⟨(some 31), none, .load (some 2) (.t 30)⟩,
          ⟨(some 11), none, .alloc [(.sc (.int .i64 (0))), (.sc (.int .i64 (0)))]⟩,
          ⟨(some 10), none, .move (.t 29)⟩,
          ⟨none, none, .store 2 (.t 11) (.t 31)⟩])
        (.draw [⟨true, [7], [], ⟨(some 32), none, .move (.t 7)⟩⟩,
          ⟨true, [32], [], ⟨(some 33), none, .move (.t 32)⟩⟩,
          ⟨true, [11, 33], [], ⟨(some 34), (some (33, false)), .faddr 1 (.t 11)⟩⟩,
          ⟨true, [34, 33], [], ⟨(some 35), (some (33, false)), .load none (.t 34)⟩⟩,
          ⟨true, [35, 33], [], ⟨(some 36), (some (33, false)), .call (.c (.fn (.func 138) [] [])) [(.t 35)]⟩⟩,
          ⟨true, [36, 33], [], ⟨(some 37), (some (33, false)), .bin .neq (.t 36) (.c (.sc (.int .i64 (0))))⟩⟩,
          ⟨true, [33, 37], [], ⟨(some 38), none, .pick (.t 33) (.c (.sc (.bool true))) (.t 37)⟩⟩,
          ⟨true, [38], [], ⟨(some 39), none, .move (.t 38)⟩⟩,
          ⟨true, [11, 39], [], ⟨(some 40), (some (39, false)), .faddr 0 (.t 11)⟩⟩,
          ⟨true, [40, 39], [], ⟨(some 41), (some (39, false)), .load none (.t 40)⟩⟩,
          ⟨false, [5, 39], [], ⟨(some 42), (some (39, false)), .move (.t 5)⟩⟩,
          ⟨false, [42, 39], [], ⟨(some 43), (some (39, false)), .bin .sub (.t 42) (.c (.sc (.int .i64 (1))))⟩⟩,
          ⟨true, [41, 43, 39], [], ⟨(some 44), (some (39, false)), .call (.c (.fn (.func 131) [] [])) [(.t 41), (.c (.sc (.int .i64 (0)))), (.t 43)]⟩⟩,
          ⟨true, [44, 39], [], ⟨(some 45), (some (39, false)), .un .not (.t 44)⟩⟩,
          ⟨true, [39, 45], [], ⟨(some 46), none, .pick (.t 39) (.c (.sc (.bool true))) (.t 45)⟩⟩,
          ⟨true, [46], [], ⟨(some 47), none, .move (.t 46)⟩⟩,
          ⟨true, [10, 47], [], ⟨(some 48), (some (47, false)), .move (.t 10)⟩⟩,
          ⟨true, [48, 47], [], ⟨(some 49), (some (47, false)), .bin .gtr (.t 48) (.c (.sc (.int .i64 (0))))⟩⟩,
          ⟨true, [49, 47], [], ⟨(some 50), (some (47, false)), .move (.t 49)⟩⟩,
          ⟨false, [11, 50], [], ⟨(some 51), (some (50, true)), .faddr 0 (.t 11)⟩⟩,
          ⟨false, [51, 50], [], ⟨(some 52), (some (50, true)), .load none (.t 51)⟩⟩,
          ⟨false, [9, 50], [], ⟨(some 53), (some (50, true)), .faddr 0 (.t 9)⟩⟩,
          ⟨false, [53, 50], [], ⟨(some 54), (some (50, true)), .load none (.t 53)⟩⟩,
          ⟨false, [10, 50], [], ⟨(some 55), (some (50, true)), .move (.t 10)⟩⟩,
          ⟨false, [55, 50], [], ⟨(some 56), (some (50, true)), .bin .sub (.t 55) (.c (.sc (.int .i64 (1))))⟩⟩,
          ⟨false, [54, 56, 50], [], ⟨(some 57), (some (50, true)), .iaddrS 2 (.t 54) (.t 56)⟩⟩,
          ⟨false, [57, 50], [], ⟨(some 58), (some (50, true)), .faddr 0 (.t 57)⟩⟩,
          ⟨false, [58, 50], [], ⟨(some 59), (some (50, true)), .load none (.t 58)⟩⟩]
          [⟨(some 60), (some (50, true)), .bin .leq (.t 52) (.t 59)⟩,
          ⟨(some 61), (some (47, false)), .pick (.t 50) (.t 60) (.c (.sc (.bool false)))⟩,
          ⟨(some 62), none, .pick (.t 47) (.c (.sc (.bool true))) (.t 61)⟩,
          ⟨(some 7), none, .move (.t 62)⟩])))
       (.ops [⟨(some 63), none, .bin .add (.t 27) (.c (.sc (.int .i64 (1))))⟩,
         ⟨(some 27), none, .move (.t 63)⟩])))))))))
    (.ops [⟨(some 64), none, .bin .add (.t 20) (.c (.sc (.int .i64 (1))))⟩,
      ⟨(some 20), none, .move (.t 64)⟩])))))))
  (.seq (.ops [⟨(some 65), none, .move (.t 7)⟩,
    ⟨(some 66), none, .move (.t 65)⟩,
    ⟨(some 67), (some (66, true)), .move (.t 6)⟩,
    ⟨(some 68), (some (66, true)), .bin .eql (.t 67) (.c (.sc (.int .i64 (0))))⟩,
    ⟨(some 69), none, .pick (.t 66) (.t 68) (.c (.sc (.bool false)))⟩,
    ⟨(some 4), none, .move (.t 69)⟩])
  (.ret))))),
  [.t 4]⟩
theorem ok139 : EntryOk Tryz.prog 139 af139 := ⟨Tryz.f139, _, Tryz.func139, by decide, rfl, by kernel_rfl, by kernel_rfl, rfl⟩
/-- (*hemiola/check.checker).tuplets$1 -/
noncomputable def af143 : AF := ⟨10, .seq (.ops [⟨(some 2), none, .move (.c (.sc (.bool false)))⟩])
  (.seq (.ops [⟨(some 3), none, .move (.t 0)⟩,
    ⟨(some 4), none, .bin .neq (.t 3) (.c (.sc (.int .i64 (0))))⟩,
    ⟨(some 5), none, .move (.t 4)⟩,
    ⟨(some 6), (some (5, true)), .move (.t 0)⟩,
    ⟨(some 7), (some (5, true)), .call (.c (.fn (.func 142) [] [])) [(.t 6)]⟩,
    ⟨(some 8), (some (5, true)), .un .not (.t 7)⟩,
    ⟨(some 9), none, .pick (.t 5) (.t 8) (.c (.sc (.bool false)))⟩,
    ⟨(some 2), none, .move (.t 9)⟩])
  (.ret)),
  [.t 2]⟩
theorem ok143 : EntryOk Tryz.prog 143 af143 := ⟨Tryz.f143, _, Tryz.func143, by decide, rfl, by kernel_rfl, by kernel_rfl, rfl⟩
/-- (*hemiola/check.checker).pitches$1 -/
noncomputable def af147 : AF := ⟨55, .seq (.ops [⟨(some 3), none, .box (.t 0)⟩,
    ⟨(some 4), none, .box (.t 1)⟩,
    ⟨(some 5), none, .move (.c (.sc (.bool false)))⟩])
  (.seq (.seq (.ops [⟨(some 11), none, .load (some 13) (.t 4)⟩,
    ⟨(some 12), none, .call (.c (.fn (.func 146) [] [])) [(.t 11)]⟩,
    ⟨(some 13), none, .bin .neq (.t 12) (.c (.sc (.int .i64 (0))))⟩])
  (.cond (.t 13)
   (.seq (.ops [⟨(some 5), none, .move (.c (.sc (.bool false)))⟩])
   (.ret))
   (.skip)))
  (.seq (.ops [⟨(some 6), none, .alloc [(.sc (.int .i64 (0)))]⟩,
    ⟨none, none, .store 1 (.t 6) (.c (.sc (.int .i64 (0))))⟩])
  (.seq (.seq (.draw [⟨false, [2], [], ⟨(some 15), none, .load none (.t 2)⟩⟩,
    ⟨false, [15], [], ⟨(some 16), none, .nilCheck (.t 15)⟩⟩,
    ⟨false, [16], [], ⟨(some 17), none, .faddr 0 (.t 16)⟩⟩,
    ⟨false, [17], [], ⟨(some 18), none, .load (some 6) (.t 17)⟩⟩,
    ⟨false, [3], [], ⟨(some 19), none, .faddr 2 (.t 3)⟩⟩,
    ⟨false, [19], [], ⟨(some 20), none, .load none (.t 19)⟩⟩,
    ⟨true, [18, 20], [], ⟨(some 21), none, .call (.c (.fn (.func 98) [] [])) [(.t 18), (.t 20)]⟩⟩,
    ⟨true, [21], [], ⟨(some 14), none, .move (.t 21)⟩⟩,
    ⟨true, [14], [], ⟨(some 22), none, .extract 0 (.t 14)⟩⟩,
    ⟨true, [14], [], ⟨(some 23), none, .extract 1 (.t 14)⟩⟩,
    ⟨true, [14], [], ⟨(some 24), none, .extract 2 (.t 14)⟩⟩,
    ⟨true, [22], [], ⟨(some 7), none, .move (.t 22)⟩⟩,
    ⟨true, [23], [], ⟨(some 8), none, .move (.t 23)⟩⟩]
    [⟨(some 9), none, .move (.t 24)⟩])
  (.seq (.ops [⟨(some 25), none, .move (.t 9)⟩,
    ⟨(some 26), none, .bin .eql (.t 25) (.c (.sc (.int .i64 (0))))⟩])
  (.cond (.t 26)
   (.ops [⟨(some 27), none, .load none (.t 2)⟩,
     ⟨(some 28), none, .nilCheck (.t 27)⟩,
     ⟨(some 29), none, .faddr 0 (.t 28)⟩,
     ⟨(some 30), none, .faddr 2 (.t 29)⟩,
     ⟨(some 31), none, .load none (.t 30)⟩,
     ⟨(some 32), none, .move (.t 7)⟩,
     ⟨(some 33), none, .iaddrS 6 (.t 31) (.t 32)⟩,
     ⟨(some 34), none, .faddr 3 (.t 33)⟩,
     ⟨(some 35), none, .faddr 1 (.t 34)⟩,
     ⟨(some 36), none, .load none (.t 35)⟩,
     ⟨none, none, .store 1 (.t 6) (.t 36)⟩])
   (.skip))))
  (.seq (.seq (.ops [⟨(some 37), none, .load none (.t 2)⟩,
    ⟨(some 38), none, .nilCheck (.t 37)⟩,
    ⟨(some 39), none, .faddr 0 (.t 38)⟩,
    ⟨(some 40), none, .faddr 1 (.t 39)⟩,
    ⟨(some 41), none, .load none (.t 40)⟩])
  (.cond (.t 41)
   (.ops [⟨(some 42), none, .load none (.t 6)⟩,
     ⟨(some 43), none, .un .neg (.t 42)⟩,
     ⟨none, none, .store 1 (.t 6) (.t 43)⟩])
   (.skip)))
  (.seq (.ops [⟨(some 44), none, .mkFn (.func 148) [] [(.t 6)]⟩,
    ⟨(some 10), none, .alloc [(.sc .nilFunc)]⟩,
    ⟨none, none, .store 1 (.t 10) (.t 44)⟩])
  (.seq (.ops [⟨(some 45), none, .faddr 5 (.t 4)⟩,
    ⟨(some 46), none, .load none (.t 45)⟩,
    ⟨(some 47), none, .mkFn (.func 150) [] [(.t 10)]⟩,
    ⟨(some 48), none, .call (.c (.fn (.func 149) [] [])) [(.t 46), (.t 47)]⟩,
    ⟨(some 49), none, .move (.t 48)⟩,
    ⟨(some 50), (some (49, false)), .faddr 6 (.t 4)⟩,
    ⟨(some 51), (some (49, false)), .load none (.t 50)⟩,
    ⟨(some 52), (some (49, false)), .mkFn (.func 152) [] [(.t 10)]⟩,
    ⟨(some 53), (some (49, false)), .call (.c (.fn (.func 151) [] [])) [(.t 51), (.t 52)]⟩,
    ⟨(some 54), none, .pick (.t 49) (.c (.sc (.bool true))) (.t 53)⟩,
    ⟨(some 5), none, .move (.t 54)⟩])
  (.ret))))))),
  [.t 5]⟩
theorem ok147 : EntryOk Tryz.prog 147 af147 := ⟨Tryz.f147, _, Tryz.func147, by decide, rfl, by kernel_rfl, by kernel_rfl, rfl⟩
/-- slices.ContainsFunc[[]hemiola/api.Grace,hemiola/api.Grace] -/
noncomputable def af151 : AF := ⟨9, .seq (.ops [⟨(some 4), none, .move (.c (.sc (.bool false)))⟩])
  (.seq (.ops [⟨(some 5), none, .move (.t 0)⟩,
    ⟨(some 6), none, .move (.t 1)⟩,
    ⟨(some 7), none, .call (.c (.fn (.func 228) [] [])) [(.t 5), (.t 6)]⟩,
    ⟨(some 8), none, .bin .geq (.t 7) (.c (.sc (.int .i64 (0))))⟩,
    ⟨(some 4), none, .move (.t 8)⟩])
  (.ret)),
  [.t 4]⟩
theorem ok151 : EntryOk Tryz.prog 151 af151 := ⟨Tryz.f151, _, Tryz.func151, by decide, rfl, by kernel_rfl, by kernel_rfl, rfl⟩
/-- (*hemiola/check.checker).verse -/
noncomputable def af158 : AF := ⟨108, .seq (.ops [⟨(some 10), none, .alloc [(.sc (.string ⟨#[]⟩)), (.sc (.int .i64 (0)))]⟩])
  (.seq (.ops [⟨(some 11), none, .alloc [(.sc (.int .i64 (0))), (.sc (.int .i64 (0))), (.sc (.int .i64 (0))), (.sc (.int .i64 (0))), (.sc (.int .i64 (0))), (.sc (.int .i64 (0))), (.sc (.int .i64 (0)))]⟩])
  (.seq (.seq (.ops [⟨(some 18), none, .move (.t 0)⟩,
    ⟨(some 19), none, .nilCheck (.t 18)⟩,
    ⟨(some 20), none, .faddr 0 (.t 19)⟩,
    ⟨(some 21), none, .faddr 3 (.t 20)⟩,
    ⟨(some 22), none, .load none (.t 21)⟩,
    ⟨(some 23), none, .len (.t 22)⟩,
    ⟨(some 24), none, .move (.c (.sc (.int .i64 (0))))⟩])
  (.block 0 (.loop (.seq (.ops [⟨(some 25), none, .bin .lss (.t 24) (.t 23)⟩])
    (.seq (.cond (.t 25)
     (.skip)
     (.exit 0))
    (.seq (.block 1 (.seq (.ops [⟨(some 26), none, .move (.t 24)⟩,
       ⟨(some 27), none, .iaddrS 22 (.t 22) (.t 24)⟩,
       ⟨(some 28), none, .load (some 22) (.t 27)⟩,
       ⟨(some 13), none, .alloc [(.sc (.int .i64 (0))), (.sc (.int .i64 (0))), (.sc (.int .i64 (0))), (.sc (.int .i64 (0))), (.sc (.int .i64 (0))), (.sc (.int .i64 (0))), (.sc (.int .i64 (0))), (.sc (.int .i64 (0))), (.sc (.int .i64 (0))), (.sc (.int .i64 (0))), (.sc (.int .i64 (0))), (.sc (.int .i64 (0))), (.sc (.bool false)), (.sc (.int .i64 (0))), (.sc (.int .i64 (0))), (.sc (.int .i64 (0))), (.sc (.int .i64 (0))), (.sc (.int .i64 (0))), (.sc (.int .i64 (0))), (.sc (.string ⟨#[]⟩)), (.sl true .full 0 []), (.sl true .full 0 [])]⟩,
       ⟨(some 12), none, .move (.t 26)⟩,
       ⟨none, none, .store 22 (.t 13) (.t 28)⟩])
     (.seq (.seq (.ops [⟨(some 29), none, .move (.t 1)⟩,
       ⟨(some 30), none, .faddr 21 (.t 13)⟩,
       ⟨(some 31), none, .load none (.t 30)⟩,
       ⟨(some 32), none, .len (.t 31)⟩,
       ⟨(some 33), none, .bin .geq (.t 29) (.t 32)⟩,
       ⟨(some 34), none, .move (.t 33)⟩,
       ⟨(some 35), (some (34, false)), .move (.t 2)⟩,
       ⟨(some 36), (some (34, false)), .faddr 21 (.t 13)⟩,
       ⟨(some 37), (some (34, false)), .load none (.t 36)⟩,
       ⟨(some 38), (some (34, false)), .move (.t 1)⟩,
       ⟨(some 39), (some (34, false)), .iaddrS 2 (.t 37) (.t 38)⟩,
       ⟨(some 40), (some (34, false)), .faddr 1 (.t 39)⟩,
       ⟨(some 41), (some (34, false)), .load none (.t 40)⟩,
       ⟨(some 42), (some (34, false)), .len (.t 41)⟩,
       ⟨(some 43), (some (34, false)), .bin .geq (.t 35) (.t 42)⟩,
       ⟨(some 44), none, .pick (.t 34) (.c (.sc (.bool true))) (.t 43)⟩])
     (.cond (.t 44)
      (.exit 1)
      (.skip)))
     (.seq (.ops [⟨(some 45), none, .faddr 21 (.t 13)⟩,
       ⟨(some 46), none, .load none (.t 45)⟩,
       ⟨(some 47), none, .move (.t 1)⟩,
       ⟨(some 48), none, .iaddrS 2 (.t 46) (.t 47)⟩,
       ⟨(some 49), none, .faddr 1 (.t 48)⟩,
       ⟨(some 50), none, .load none (.t 49)⟩,
       ⟨(some 51), none, .move (.t 2)⟩,
       ⟨(some 52), none, .iaddrS 2 (.t 50) (.t 51)⟩,
       ⟨(some 53), none, .faddr 0 (.t 52)⟩,
       ⟨(some 54), none, .load none (.t 53)⟩,
       ⟨(some 55), none, .len (.t 54)⟩,
       ⟨(some 56), none, .move (.c (.sc (.int .i64 (0))))⟩])
     (.block 2 (.loop (.seq (.ops [⟨(some 57), none, .bin .lss (.t 56) (.t 55)⟩])
       (.seq (.cond (.t 57)
        (.skip)
        (.exit 2))
       (.seq (.block 3 (.seq (.ops [⟨(some 58), none, .move (.t 56)⟩,
          ⟨(some 59), none, .iaddrS 13 (.t 54) (.t 56)⟩,
          ⟨(some 60), none, .load (some 13) (.t 59)⟩,
          ⟨(some 15), none, .alloc [(.sc (.int .i64 (0))), (.sc (.int .i64 (0))), (.sc (.int .i64 (0))), (.sc (.int .i64 (0))), (.sc (.int .i64 (0))), (.sl true .full 0 []), (.sl true .full 0 []), (.sc (.int .i64 (0))), (.sc (.int .i64 (0))), (.sc (.int .i64 (0))), (.sl true .full 0 []), (.sc (.int .i64 (0))), (.sc (.int .i64 (0)))]⟩,
          ⟨(some 14), none, .move (.t 58)⟩,
          ⟨none, none, .store 13 (.t 15) (.t 60)⟩])
        (.seq (.seq (.ops [⟨(some 61), none, .load (some 13) (.t 15)⟩,
          ⟨(some 62), none, .move (.t 3)⟩,
          ⟨(some 63), none, .call (.c (.fn (.func 235) [] [])) [(.t 61), (.t 62)]⟩])
        (.cond (.t 63)
         (.exit 3)
         (.skip)))
        (.seq (.draw [⟨false, [1], [], ⟨(some 64), none, .move (.t 1)⟩⟩,
          ⟨false, [12], [], ⟨(some 65), none, .move (.t 12)⟩⟩,
          ⟨false, [2], [], ⟨(some 66), none, .move (.t 2)⟩⟩,
          ⟨false, [14], [], ⟨(some 67), none, .move (.t 14)⟩⟩,
          ⟨false, [64, 65, 66, 67], [], ⟨(some 68), none, .build [(.sc (.int .i64 (0))), (.sc (.int .i64 (0))), (.sc (.int .i64 (0))), (.sc (.int .i64 (0))), (.sc (.int .i64 (0))), (.sc (.int .i64 (0))), (.sc (.int .i64 (0)))] [((0, 1), (.c (.sc (.int .i64 (4))))), ((2, 1), (.t 64)), ((3, 1), (.t 65)), ((4, 1), (.t 66)), ((5, 1), (.t 67))]⟩⟩,
          ⟨false, [15], [], ⟨(some 69), none, .faddr 10 (.t 15)⟩⟩,
          ⟨false, [69], [12], ⟨(some 70), none, .load none (.t 69)⟩⟩,
          ⟨false, [3], [], ⟨(some 71), none, .move (.t 3)⟩⟩,
          ⟨false, [70, 71], [], ⟨(some 72), none, .iaddrS 2 (.t 70) (.t 71)⟩⟩,
          ⟨false, [72], [12], ⟨(some 73), none, .load (some 2) (.t 72)⟩⟩,
          ⟨false, [], [], ⟨(some 16), none, .alloc [(.sc (.int .i64 (0))), (.sc (.int .i64 (0))), (.sc (.int .i64 (0))), (.sc (.int .i64 (0))), (.sc (.int .i64 (0))), (.sc (.int .i64 (0))), (.sc (.int .i64 (0)))]⟩⟩,
          ⟨false, [], [], ⟨(some 17), none, .alloc [(.sc (.string ⟨#[]⟩)), (.sc (.int .i64 (0)))]⟩⟩,
          ⟨true, [16, 68], [], ⟨none, none, .store 7 (.t 16) (.t 68)⟩⟩]
          [⟨none, none, .store 2 (.t 17) (.t 73)⟩])
        (.seq (.seq (.ops [⟨(some 74), none, .faddr 1 (.t 10)⟩,
          ⟨(some 75), none, .load none (.t 74)⟩,
          ⟨(some 76), none, .bin .eql (.t 75) (.c (.sc (.int .i64 (1))))⟩,
          ⟨(some 77), none, .move (.t 76)⟩,
          ⟨(some 78), (some (77, true)), .faddr 0 (.t 17)⟩,
          ⟨(some 79), (some (77, true)), .load none (.t 78)⟩,
          ⟨(some 80), (some (77, true)), .bin .eql (.t 79) (.c (.sc (.string ⟨#[]⟩)))⟩,
          ⟨(some 81), none, .pick (.t 77) (.t 80) (.c (.sc (.bool false)))⟩])
        (.cond (.t 81)
         (.ops [⟨(some 82), none, .move (.t 4)⟩,
           ⟨(some 83), none, .load (some 7) (.t 11)⟩,
           ⟨none, none, .mapUp [.i, .i, .i, .i, .i, .i, .i] true (.t 82) (.t 83) (.c (.sc (.bool true)))⟩])
         (.skip)))
        (.seq (.seq (.ops [⟨(some 84), none, .faddr 0 (.t 17)⟩,
          ⟨(some 85), none, .load none (.t 84)⟩,
          ⟨(some 86), none, .bin .eql (.t 85) (.c (.sc (.string ⟨#[]⟩)))⟩,
          ⟨(some 87), none, .move (.t 86)⟩,
          ⟨(some 88), (some (87, true)), .faddr 1 (.t 17)⟩,
          ⟨(some 89), (some (87, true)), .load none (.t 88)⟩,
          ⟨(some 90), (some (87, true)), .bin .eql (.t 89) (.c (.sc (.int .i64 (2))))⟩,
          ⟨(some 91), none, .pick (.t 87) (.t 90) (.c (.sc (.bool false)))⟩,
          ⟨(some 92), none, .move (.t 91)⟩,
          ⟨(some 93), (some (92, true)), .faddr 1 (.t 10)⟩,
          ⟨(some 94), (some (92, true)), .load none (.t 93)⟩,
          ⟨(some 95), (some (92, true)), .bin .neq (.t 94) (.c (.sc (.int .i64 (2))))⟩,
          ⟨(some 96), none, .pick (.t 92) (.t 95) (.c (.sc (.bool false)))⟩])
        (.cond (.t 96)
         (.ops [⟨(some 97), none, .move (.t 4)⟩,
           ⟨(some 98), none, .load (some 7) (.t 16)⟩,
           ⟨none, none, .mapUp [.i, .i, .i, .i, .i, .i, .i] true (.t 97) (.t 98) (.c (.sc (.bool true)))⟩])
         (.skip)))
        (.draw [⟨false, [17], [], ⟨(some 99), none, .load (some 2) (.t 17)⟩⟩,
          ⟨false, [16], [2], ⟨(some 100), none, .load (some 7) (.t 16)⟩⟩,
          ⟨true, [10, 99], [], ⟨none, none, .store 2 (.t 10) (.t 99)⟩⟩]
          [⟨none, none, .store 7 (.t 11) (.t 100)⟩])))))))
       (.ops [⟨(some 101), none, .bin .add (.t 56) (.c (.sc (.int .i64 (1))))⟩,
         ⟨(some 56), none, .move (.t 101)⟩]))))))))))
    (.ops [⟨(some 102), none, .bin .add (.t 24) (.c (.sc (.int .i64 (1))))⟩,
      ⟨(some 24), none, .move (.t 102)⟩])))))))
  (.seq (.ops [⟨(some 103), none, .faddr 1 (.t 10)⟩,
    ⟨(some 104), none, .load none (.t 103)⟩,
    ⟨(some 105), none, .bin .eql (.t 104) (.c (.sc (.int .i64 (1))))⟩])
  (.cond (.t 105)
   (.ops [⟨(some 106), none, .move (.t 4)⟩,
     ⟨(some 107), none, .load (some 7) (.t 11)⟩,
     ⟨none, none, .mapUp [.i, .i, .i, .i, .i, .i, .i] true (.t 106) (.t 107) (.c (.sc (.bool true)))⟩])
   (.skip))))),
  []⟩
theorem ok158 : EntryOk Tryz.prog 158 af158 := ⟨Tryz.f158, _, Tryz.func158, by decide, rfl, by kernel_rfl, by kernel_rfl, rfl⟩
/-- (hemiola/check.group).read -/
noncomputable def af163 : AF := ⟨37, .seq (.ops [⟨(some 2), none, .box (.t 0)⟩,
    ⟨(some 3), none, .box (.t 1)⟩,
    ⟨(some 4), none, .alloc [(.sc (.bool false)), (.sc (.int .i64 (0))), (.sc (.int .i64 (0))), (.sc (.int .i64 (0))), (.sc (.bool false)), (.sc (.int .i64 (0)))]⟩,
    ⟨(some 5), none, .move (.c (.sc (.bool false)))⟩])
  (.seq (.seq (.ops [⟨(some 6), none, .faddr 14 (.t 3)⟩,
    ⟨(some 7), none, .load none (.t 6)⟩,
    ⟨(some 8), none, .bin .neq (.t 7) (.c (.sc (.int .i64 (0))))⟩])
  (.cond (.t 8)
   (.seq (.ops [⟨(some 9), none, .load (some 6) (.t 2)⟩,
     ⟨(some 10), none, .load (some 22) (.t 3)⟩,
     ⟨(some 11), none, .call (.c (.fn (.func 244) [] [])) [(.t 9), (.t 10)]⟩,
     ⟨(some 12), none, .extract 0 (.t 11)⟩,
     ⟨(some 13), none, .extract 1 (.t 11)⟩,
     ⟨none, none, .store 6 (.t 4) (.t 12)⟩,
     ⟨(some 5), none, .move (.t 13)⟩])
   (.ret))
   (.skip)))
  (.seq (.seq (.ops [⟨(some 14), none, .faddr 3 (.t 2)⟩,
    ⟨(some 15), none, .load none (.t 14)⟩,
    ⟨(some 16), none, .bin .neq (.t 15) (.c (.sc (.int .i64 (0))))⟩])
  (.cond (.t 16)
   (.seq (.seq (.ops [⟨(some 17), none, .load (some 6) (.t 2)⟩,
     ⟨(some 18), none, .call (.c (.fn (.func 164) [] [])) [(.t 17)]⟩,
     ⟨(some 19), none, .un .not (.t 18)⟩])
   (.cond (.t 19)
    (.seq (.ops [⟨(some 20), none, .load (some 6) (.t 2)⟩,
      ⟨none, none, .store 6 (.t 4) (.t 20)⟩,
      ⟨(some 5), none, .move (.c (.sc (.bool false)))⟩])
    (.ret))
    (.skip)))
   (.ops [⟨(some 21), none, .build [(.sc (.bool false)), (.sc (.int .i64 (0))), (.sc (.int .i64 (0))), (.sc (.int .i64 (0))), (.sc (.bool false)), (.sc (.int .i64 (0)))] []⟩,
     ⟨none, none, .store 6 (.t 2) (.t 21)⟩]))
   (.skip)))
  (.seq (.seq (.ops [⟨(some 22), none, .faddr 12 (.t 3)⟩,
    ⟨(some 23), none, .load none (.t 22)⟩])
  (.cond (.t 23)
   (.seq (.seq (.ops [⟨(some 24), none, .faddr 0 (.t 2)⟩,
     ⟨(some 25), none, .load none (.t 24)⟩])
   (.cond (.t 25)
    (.seq (.ops [⟨(some 26), none, .load (some 6) (.t 2)⟩,
      ⟨none, none, .store 6 (.t 4) (.t 26)⟩,
      ⟨(some 5), none, .move (.c (.sc (.bool false)))⟩])
    (.ret))
    (.skip)))
   (.ops [⟨(some 27), none, .build [(.sc (.bool false)), (.sc (.int .i64 (0))), (.sc (.int .i64 (0))), (.sc (.int .i64 (0))), (.sc (.bool false)), (.sc (.int .i64 (0)))] [((0, 1), (.c (.sc (.bool true))))]⟩,
     ⟨none, none, .store 6 (.t 2) (.t 27)⟩]))
   (.skip)))
  (.seq (.ops [⟨(some 28), none, .faddr 1 (.t 2)⟩,
    ⟨(some 29), none, .load none (.t 28)⟩,
    ⟨(some 30), none, .bin .add (.t 29) (.c (.sc (.int .i64 (1))))⟩,
    ⟨(some 31), none, .faddr 1 (.t 2)⟩,
    ⟨none, none, .store 1 (.t 31) (.t 30)⟩])
  (.seq (.seq (.ops [⟨(some 32), none, .faddr 13 (.t 3)⟩,
    ⟨(some 33), none, .load none (.t 32)⟩,
    ⟨(some 34), none, .bin .neq (.t 33) (.c (.sc (.int .i64 (0))))⟩])
  (.cond (.t 34)
   (.ops [⟨(some 35), none, .build [(.sc (.bool false)), (.sc (.int .i64 (0))), (.sc (.int .i64 (0))), (.sc (.int .i64 (0))), (.sc (.bool false)), (.sc (.int .i64 (0)))] []⟩,
     ⟨none, none, .store 6 (.t 2) (.t 35)⟩])
   (.skip)))
  (.seq (.ops [⟨(some 36), none, .load (some 6) (.t 2)⟩,
    ⟨none, none, .store 6 (.t 4) (.t 36)⟩,
    ⟨(some 5), none, .move (.c (.sc (.bool true)))⟩])
  (.ret))))))),
  [.c 4 (some 6), .t 5]⟩
theorem ok163 : EntryOk Tryz.prog 163 af163 := ⟨Tryz.f163, _, Tryz.func163, by decide, rfl, by kernel_rfl, by kernel_rfl, rfl⟩
/-- (*hemiola/check.checker).tempi$1 -/
noncomputable def af169 : AF := ⟨71, .seq (.ops [⟨(some 3), none, .box (.t 1)⟩,
    ⟨(some 4), none, .move (.c (.sc (.bool false)))⟩])
  (.seq (.ops [⟨(some 11), none, .load (some 22) (.t 3)⟩,
    ⟨(some 12), none, .call (.c (.fn (.func 53) [] [])) [(.t 11)]⟩,
    ⟨(some 10), none, .move (.t 12)⟩,
    ⟨(some 13), none, .extract 0 (.t 10)⟩,
    ⟨(some 14), none, .extract 1 (.t 10)⟩,
    ⟨(some 5), none, .move (.t 13)⟩,
    ⟨(some 6), none, .move (.t 14)⟩])
  (.seq (.ops [⟨(some 15), none, .faddr 17 (.t 3)⟩,
    ⟨(some 16), none, .load none (.t 15)⟩,
    ⟨(some 17), none, .bin .neq (.t 16) (.c (.sc (.int .i64 (0))))⟩,
    ⟨(some 18), none, .move (.t 17)⟩,
    ⟨(some 19), (some (18, true)), .faddr 17 (.t 3)⟩,
    ⟨(some 20), (some (18, true)), .load none (.t 19)⟩,
    ⟨(some 21), (some (18, true)), .call (.c (.fn (.func 131) [] [])) [(.t 20), (.c (.sc (.int .i64 (50)))), (.c (.sc (.int .i64 (75))))]⟩,
    ⟨(some 22), (some (18, true)), .un .not (.t 21)⟩,
    ⟨(some 23), none, .pick (.t 18) (.t 22) (.c (.sc (.bool false)))⟩,
    ⟨(some 24), none, .move (.t 23)⟩,
    ⟨(some 25), (some (24, false)), .faddr 18 (.t 3)⟩,
    ⟨(some 26), (some (24, false)), .load none (.t 25)⟩,
    ⟨(some 27), (some (24, false)), .call (.c (.fn (.func 131) [] [])) [(.t 26), (.c (.sc (.int .i64 (0)))), (.c (.sc (.int .i64 (3))))]⟩,
    ⟨(some 28), (some (24, false)), .un .not (.t 27)⟩,
    ⟨(some 29), none, .pick (.t 24) (.c (.sc (.bool true))) (.t 28)⟩,
    ⟨(some 7), none, .move (.t 29)⟩])
  (.seq (.seq (.ops [⟨(some 30), none, .faddr 20 (.t 3)⟩,
    ⟨(some 31), none, .load none (.t 30)⟩,
    ⟨(some 32), none, .len (.t 31)⟩,
    ⟨(some 33), none, .move (.c (.sc (.int .i64 (0))))⟩])
  (.block 0 (.loop (.seq (.ops [⟨(some 34), none, .bin .lss (.t 33) (.t 32)⟩])
    (.seq (.cond (.t 34)
     (.skip)
     (.exit 0))
    (.seq (.block 1 (.seq (.ops [⟨(some 35), none, .move (.t 33)⟩,
       ⟨(some 36), none, .iaddrS 3 (.t 31) (.t 33)⟩,
       ⟨(some 37), none, .load (some 3) (.t 36)⟩,
       ⟨(some 9), none, .alloc [(.sc (.int .i64 (0))), (.sc (.int .i64 (0))), (.sc (.bool false))]⟩,
       ⟨(some 8), none, .move (.t 35)⟩,
       ⟨none, none, .store 3 (.t 9) (.t 37)⟩])
     (.draw [⟨true, [7], [], ⟨(some 38), none, .move (.t 7)⟩⟩,
       ⟨true, [38], [], ⟨(some 39), none, .move (.t 38)⟩⟩,
       ⟨true, [9, 39], [], ⟨(some 40), (some (39, false)), .faddr 0 (.t 9)⟩⟩,
       ⟨true, [40, 39], [], ⟨(some 41), (some (39, false)), .load none (.t 40)⟩⟩,
       ⟨false, [5, 39], [], ⟨(some 42), (some (39, false)), .move (.t 5)⟩⟩,
       ⟨false, [42, 39], [], ⟨(some 43), (some (39, false)), .bin .sub (.t 42) (.c (.sc (.int .i64 (1))))⟩⟩,
       ⟨true, [41, 43, 39], [], ⟨(some 44), (some (39, false)), .call (.c (.fn (.func 131) [] [])) [(.t 41), (.c (.sc (.int .i64 (0)))), (.t 43)]⟩⟩,
       ⟨true, [44, 39], [], ⟨(some 45), (some (39, false)), .un .not (.t 44)⟩⟩,
       ⟨true, [39, 45], [], ⟨(some 46), none, .pick (.t 39) (.c (.sc (.bool true))) (.t 45)⟩⟩,
       ⟨true, [46], [], ⟨(some 47), none, .move (.t 46)⟩⟩,
       ⟨true, [9, 47], [], ⟨(some 48), (some (47, false)), .faddr 1 (.t 9)⟩⟩,
       ⟨true, [48, 47], [], ⟨(some 49), (some (47, false)), .load none (.t 48)⟩⟩,
       ⟨true, [49, 47], [], ⟨(some 50), (some (47, false)), .call (.c (.fn (.func 131) [] [])) [(.t 49), (.c (.sc (.int .i64 (1)))), (.c (.sc (.int .i64 (60000000))))]⟩⟩,
       ⟨true, [50, 47], [], ⟨(some 51), (some (47, false)), .un .not (.t 50)⟩⟩,
       ⟨true, [47, 51], [], ⟨(some 52), none, .pick (.t 47) (.c (.sc (.bool true))) (.t 51)⟩⟩,
       ⟨true, [52], [], ⟨(some 53), none, .move (.t 52)⟩⟩,
       ⟨true, [8, 53], [], ⟨(some 54), (some (53, false)), .move (.t 8)⟩⟩,
       ⟨true, [54, 53], [], ⟨(some 55), (some (53, false)), .bin .gtr (.t 54) (.c (.sc (.int .i64 (0))))⟩⟩,
       ⟨true, [55, 53], [], ⟨(some 56), (some (53, false)), .move (.t 55)⟩⟩,
       ⟨false, [9, 56], [], ⟨(some 57), (some (56, true)), .faddr 0 (.t 9)⟩⟩,
       ⟨false, [57, 56], [], ⟨(some 58), (some (56, true)), .load none (.t 57)⟩⟩,
       ⟨false, [3, 56], [], ⟨(some 59), (some (56, true)), .faddr 20 (.t 3)⟩⟩,
       ⟨false, [59, 56], [], ⟨(some 60), (some (56, true)), .load none (.t 59)⟩⟩,
       ⟨false, [8, 56], [], ⟨(some 61), (some (56, true)), .move (.t 8)⟩⟩,
       ⟨false, [61, 56], [], ⟨(some 62), (some (56, true)), .bin .sub (.t 61) (.c (.sc (.int .i64 (1))))⟩⟩,
       ⟨false, [60, 62, 56], [], ⟨(some 63), (some (56, true)), .iaddrS 3 (.t 60) (.t 62)⟩⟩,
       ⟨false, [63, 56], [], ⟨(some 64), (some (56, true)), .faddr 0 (.t 63)⟩⟩,
       ⟨false, [64, 56], [], ⟨(some 65), (some (56, true)), .load none (.t 64)⟩⟩]
       [⟨(some 66), (some (56, true)), .bin .leq (.t 58) (.t 65)⟩,
       ⟨(some 67), (some (53, false)), .pick (.t 56) (.t 66) (.c (.sc (.bool false)))⟩,
       ⟨(some 68), none, .pick (.t 53) (.c (.sc (.bool true))) (.t 67)⟩,
       ⟨(some 7), none, .move (.t 68)⟩])))
    (.ops [⟨(some 69), none, .bin .add (.t 33) (.c (.sc (.int .i64 (1))))⟩,
      ⟨(some 33), none, .move (.t 69)⟩])))))))
  (.seq (.ops [⟨(some 70), none, .move (.t 7)⟩,
    ⟨(some 4), none, .move (.t 70)⟩])
  (.ret))))),
  [.t 4]⟩
theorem ok169 : EntryOk Tryz.prog 169 af169 := ⟨Tryz.f169, _, Tryz.func169, by decide, rfl, by kernel_rfl, by kernel_rfl, rfl⟩
/-- (*hemiola/timeline.line).event -/
noncomputable def af177 : AF := ⟨103, .seq (.ops [⟨(some 5), none, .box (.t 1)⟩])
  (.seq (.ops [⟨(some 16), none, .mkMap⟩,
    ⟨(some 8), none, .move (.t 16)⟩])
  (.seq (.seq (.ops [⟨(some 17), none, .faddr 5 (.t 5)⟩,
    ⟨(some 18), none, .load none (.t 17)⟩,
    ⟨(some 19), none, .len (.t 18)⟩,
    ⟨(some 20), none, .move (.c (.sc (.int .i64 (0))))⟩])
  (.block 0 (.loop (.seq (.ops [⟨(some 21), none, .bin .lss (.t 20) (.t 19)⟩])
    (.seq (.cond (.t 21)
     (.skip)
     (.exit 0))
    (.seq (.block 1 (.seq (.ops [⟨(some 22), none, .move (.t 20)⟩,
       ⟨(some 23), none, .iaddrS 5 (.t 18) (.t 20)⟩,
       ⟨(some 24), none, .load (some 5) (.t 23)⟩,
       ⟨(some 10), none, .alloc [(.sc (.int .i64 (0))), (.sc (.int .i64 (0))), (.sc (.int .i64 (0))), (.sc (.bool false)), (.sc (.int .i64 (0)))]⟩,
       ⟨(some 9), none, .move (.t 22)⟩,
       ⟨none, none, .store 5 (.t 10) (.t 24)⟩])
     (.seq (.draw [⟨false, [0], [], ⟨(some 26), none, .move (.t 0)⟩⟩,
       ⟨false, [26], [], ⟨(some 27), none, .nilCheck (.t 26)⟩⟩,
       ⟨false, [27], [], ⟨(some 28), none, .faddr 1 (.t 27)⟩⟩,
       ⟨false, [28], [], ⟨(some 29), none, .load none (.t 28)⟩⟩,
       ⟨false, [10], [], ⟨(some 30), none, .faddr 0 (.t 10)⟩⟩,
       ⟨false, [30], [], ⟨(some 31), none, .load (some 3) (.t 30)⟩⟩,
       ⟨true, [29, 31], [], ⟨(some 32), none, .lookup [.i, .i, .i] true (.sc (.int .i64 (0))) (.t 29) (.t 31) true⟩⟩,
       ⟨true, [32], [], ⟨(some 25), none, .move (.t 32)⟩⟩,
       ⟨true, [25], [], ⟨(some 33), none, .extract 0 (.t 25)⟩⟩,
       ⟨true, [25], [], ⟨(some 34), none, .extract 1 (.t 25)⟩⟩,
       ⟨true, [33], [], ⟨(some 11), none, .move (.t 33)⟩⟩]
       [⟨(some 12), none, .move (.t 34)⟩])
     (.seq (.seq (.ops [⟨(some 35), none, .move (.t 12)⟩,
       ⟨(some 36), none, .un .not (.t 35)⟩])
     (.cond (.t 36)
      (.seq (.ops [⟨(some 38), none, .faddr 0 (.t 10)⟩,
        ⟨(some 39), none, .load (some 3) (.t 38)⟩,
        ⟨(some 40), none, .call (.c (.fn (.func 117) [] [])) [(.t 39)]⟩,
        ⟨(some 37), none, .move (.t 40)⟩,
        ⟨(some 41), none, .extract 0 (.t 37)⟩,
        ⟨(some 42), none, .extract 1 (.t 37)⟩,
        ⟨(some 13), none, .move (.t 41)⟩,
        ⟨(some 14), none, .move (.t 42)⟩])
      (.seq (.ops [⟨(some 43), none, .move (.t 0)⟩,
        ⟨(some 44), none, .nilCheck (.t 43)⟩,
        ⟨(some 45), none, .faddr 2 (.t 44)⟩,
        ⟨(some 46), none, .load (some 9) (.t 45)⟩,
        ⟨(some 15), none, .alloc [(.sc (.int .i64 (0))), (.sc (.int .i64 (0))), (.sc (.int .i64 (0))), (.sc (.int .i64 (0))), (.sc (.int .i64 (0))), (.sc (.int .i64 (0))), (.sc (.int .i64 (0))), (.sc (.int .i64 (0))), (.sc (.int .i64 (0)))]⟩,
        ⟨none, none, .store 9 (.t 15) (.t 46)⟩])
      (.seq (.draw [⟨false, [2], [], ⟨(some 47), none, .move (.t 2)⟩⟩,
        ⟨false, [13], [], ⟨(some 48), none, .move (.t 13)⟩⟩,
        ⟨false, [0], [], ⟨(some 49), none, .move (.t 0)⟩⟩,
        ⟨false, [49], [], ⟨(some 50), none, .nilCheck (.t 49)⟩⟩,
        ⟨false, [50], [], ⟨(some 51), none, .faddr 11 (.t 50)⟩⟩,
        ⟨false, [51], [11], ⟨(some 52), none, .load none (.t 51)⟩⟩,
        ⟨false, [48, 52], [], ⟨(some 53), none, .bin .sub (.t 48) (.t 52)⟩⟩,
        ⟨false, [5], [], ⟨(some 54), none, .faddr 0 (.t 5)⟩⟩,
        ⟨false, [54], [11, 13], ⟨(some 55), none, .load (some 2) (.t 54)⟩⟩,
        ⟨false, [9], [], ⟨(some 56), none, .move (.t 9)⟩⟩,
        ⟨false, [15], [], ⟨(some 57), none, .faddr 0 (.t 15)⟩⟩,
        ⟨true, [57, 47], [], ⟨none, none, .store 1 (.t 57) (.t 47)⟩⟩,
        ⟨false, [15], [], ⟨(some 58), none, .faddr 2 (.t 15)⟩⟩,
        ⟨true, [58, 53], [], ⟨none, none, .store 1 (.t 58) (.t 53)⟩⟩,
        ⟨true, [15], [], ⟨(some 59), none, .faddr 6 (.t 15)⟩⟩,
        ⟨true, [59, 55], [], ⟨none, none, .store 2 (.t 59) (.t 55)⟩⟩]
        [⟨(some 60), none, .faddr 8 (.t 15)⟩,
        ⟨none, none, .store 1 (.t 60) (.t 56)⟩])
      (.seq (.ops [⟨(some 61), none, .move (.t 0)⟩,
        ⟨(some 62), none, .nilCheck (.t 61)⟩,
        ⟨(some 63), none, .faddr 0 (.t 62)⟩,
        ⟨(some 64), none, .load none (.t 63)⟩,
        ⟨(some 65), none, .nilCheck (.t 64)⟩,
        ⟨(some 66), none, .load none (.t 65)⟩,
        ⟨(some 67), none, .len (.t 66)⟩,
        ⟨(some 11), none, .move (.t 67)⟩])
      (.draw [⟨false, [0], [], ⟨(some 68), none, .move (.t 0)⟩⟩,
        ⟨false, [68], [], ⟨(some 69), none, .nilCheck (.t 68)⟩⟩,
        ⟨false, [69], [], ⟨(some 70), none, .faddr 0 (.t 69)⟩⟩,
        ⟨false, [70], [12], ⟨(some 71), none, .load none (.t 70)⟩⟩,
        ⟨false, [0], [], ⟨(some 72), none, .move (.t 0)⟩⟩,
        ⟨false, [72], [], ⟨(some 73), none, .nilCheck (.t 72)⟩⟩,
        ⟨false, [73], [], ⟨(some 74), none, .faddr 0 (.t 73)⟩⟩,
        ⟨false, [74], [], ⟨(some 75), none, .load none (.t 74)⟩⟩,
        ⟨false, [75], [], ⟨(some 76), none, .nilCheck (.t 75)⟩⟩,
        ⟨false, [76], [], ⟨(some 77), none, .load none (.t 76)⟩⟩,
        ⟨false, [15], [], ⟨(some 78), none, .load (some 9) (.t 15)⟩⟩,
        ⟨false, [78], [], ⟨(some 79), none, .buildSl 9 [(.t 78)]⟩⟩,
        ⟨true, [77, 79], [], ⟨(some 80), none, .appendM 9 72 (.t 77) (.t 79)⟩⟩]
        [⟨(some 81), none, .nilCheck (.t 71)⟩,
        ⟨none, none, .store 1 (.t 81) (.t 80)⟩])))))
      (.skip)))
     (.seq (.ops [⟨(some 82), none, .move (.t 0)⟩,
       ⟨(some 83), none, .nilCheck (.t 82)⟩,
       ⟨(some 84), none, .faddr 0 (.t 83)⟩,
       ⟨(some 85), none, .load none (.t 84)⟩,
       ⟨(some 86), none, .nilCheck (.t 85)⟩,
       ⟨(some 87), none, .load none (.t 86)⟩,
       ⟨(some 88), none, .move (.t 11)⟩,
       ⟨(some 89), none, .move (.t 3)⟩,
       ⟨(some 90), none, .iaddrS 9 (.t 87) (.t 88)⟩,
       ⟨(some 91), none, .faddr 1 (.t 90)⟩,
       ⟨none, none, .store 1 (.t 91) (.t 89)⟩])
     (.seq (.ops [⟨(some 92), none, .faddr 3 (.t 10)⟩,
       ⟨(some 93), none, .load none (.t 92)⟩])
     (.cond (.t 93)
      (.ops [⟨(some 94), none, .move (.t 8)⟩,
        ⟨(some 95), none, .faddr 0 (.t 10)⟩,
        ⟨(some 96), none, .load (some 3) (.t 95)⟩,
        ⟨(some 97), none, .move (.t 11)⟩,
        ⟨none, none, .mapUp [.i, .i, .i] true (.t 94) (.t 96) (.t 97)⟩])
      (.skip))))))))
    (.ops [⟨(some 98), none, .bin .add (.t 20) (.c (.sc (.int .i64 (1))))⟩,
      ⟨(some 20), none, .move (.t 98)⟩])))))))
  (.ops [⟨(some 99), none, .move (.t 0)⟩,
    ⟨(some 100), none, .move (.t 8)⟩,
    ⟨(some 101), none, .nilCheck (.t 99)⟩,
    ⟨(some 102), none, .faddr 1 (.t 101)⟩,
    ⟨none, none, .store 1 (.t 102) (.t 100)⟩]))),
  []⟩
theorem ok177 : EntryOk Tryz.prog 177 af177 := ⟨Tryz.f177, _, Tryz.func177, by decide, rfl, by kernel_rfl, by kernel_rfl, rfl⟩
/-- hemiola/tempo.integral -/
noncomputable def af181 : AF := ⟨51, .seq (.ops [⟨(some 8), none, .move (.c (.sc (.int .i64 (0))))⟩])
  (.seq (.ops [⟨(some 16), none, .move (.t 0)⟩,
    ⟨(some 17), none, .move (.t 2)⟩,
    ⟨(some 18), none, .bin .mul (.c (.sc (.int .i64 (2)))) (.t 17)⟩,
    ⟨(some 19), none, .move (.t 3)⟩,
    ⟨(some 20), none, .bin .sub (.t 18) (.t 19)⟩,
    ⟨(some 21), none, .move (.t 1)⟩,
    ⟨(some 22), none, .move (.t 3)⟩,
    ⟨(some 23), none, .call (.c (.fn (.func 254) [] [])) [(.t 16), (.t 20), (.t 21), (.t 22)]⟩,
    ⟨(some 15), none, .move (.t 23)⟩,
    ⟨(some 24), none, .extract 0 (.t 15)⟩,
    ⟨(some 25), none, .extract 1 (.t 15)⟩,
    ⟨(some 9), none, .move (.t 24)⟩,
    ⟨(some 10), none, .move (.t 25)⟩])
  (.seq (.ops [⟨(some 27), none, .move (.t 10)⟩,
    ⟨(some 28), none, .move (.t 3)⟩,
    ⟨(some 29), none, .convI .u64 (.t 28)⟩,
    ⟨(some 30), none, .call (.c (.fn (.func 255) [] [])) [(.t 27), (.t 29)]⟩,
    ⟨(some 26), none, .move (.t 30)⟩,
    ⟨(some 31), none, .extract 0 (.t 26)⟩,
    ⟨(some 32), none, .extract 1 (.t 26)⟩,
    ⟨(some 11), none, .move (.t 31)⟩,
    ⟨(some 12), none, .move (.t 32)⟩])
  (.seq (.ops [⟨(some 33), none, .move (.t 11)⟩,
    ⟨(some 34), none, .move (.t 9)⟩,
    ⟨(some 35), none, .move (.t 3)⟩,
    ⟨(some 36), none, .convI .u64 (.t 35)⟩,
    ⟨(some 37), none, .bin .mul (.t 34) (.t 36)⟩,
    ⟨(some 38), none, .bin .add (.t 33) (.t 37)⟩,
    ⟨(some 11), none, .move (.t 38)⟩])
  (.seq (.ops [⟨(some 40), none, .move (.t 11)⟩,
    ⟨(some 41), none, .move (.t 12)⟩,
    ⟨(some 42), none, .move (.t 2)⟩,
    ⟨(some 43), none, .bin .mul (.c (.sc (.int .i64 (2)))) (.t 42)⟩,
    ⟨(some 44), none, .convI .u64 (.t 43)⟩,
    ⟨(some 45), none, .bin .mul (.t 44) (.c (.sc (.int .u64 (483840))))⟩,
    ⟨(some 46), none, .call (.c (.fn (.func 256) [] [])) [(.t 40), (.t 41), (.t 45)]⟩,
    ⟨(some 39), none, .move (.t 46)⟩,
    ⟨(some 47), none, .extract 0 (.t 39)⟩,
    ⟨(some 48), none, .extract 1 (.t 39)⟩,
    ⟨(some 13), none, .move (.t 47)⟩,
    ⟨(some 14), none, .move (.t 48)⟩])
  (.seq (.ops [⟨(some 49), none, .move (.t 13)⟩,
    ⟨(some 50), none, .convI .i64 (.t 49)⟩,
    ⟨(some 8), none, .move (.t 50)⟩])
  (.ret)))))),
  [.t 8]⟩
theorem ok181 : EntryOk Tryz.prog 181 af181 := ⟨Tryz.f181, _, Tryz.func181, by decide, rfl, by kernel_rfl, by kernel_rfl, rfl⟩
/-- hemiola/voice.total -/
noncomputable def af185 : AF := ⟨17, .seq (.ops [⟨(some 2), none, .move (.c (.sc (.int .i64 (0))))⟩])
  (.seq (.ops [⟨(some 3), none, .move (.c (.sc (.int .i64 (0))))⟩])
  (.seq (.seq (.ops [⟨(some 6), none, .move (.t 0)⟩,
    ⟨(some 7), none, .len (.t 6)⟩,
    ⟨(some 8), none, .move (.c (.sc (.int .i64 (0))))⟩])
  (.block 0 (.loop (.seq (.ops [⟨(some 9), none, .bin .lss (.t 8) (.t 7)⟩])
    (.seq (.cond (.t 9)
     (.skip)
     (.exit 0))
    (.seq (.block 1 (.seq (.ops [⟨(some 10), none, .iaddrS 1 (.t 6) (.t 8)⟩,
       ⟨(some 11), none, .load none (.t 10)⟩,
       ⟨(some 5), none, .move (.t 11)⟩])
     (.ops [⟨(some 12), none, .move (.t 3)⟩,
       ⟨(some 13), none, .move (.t 5)⟩,
       ⟨(some 14), none, .bin .add (.t 12) (.t 13)⟩,
       ⟨(some 3), none, .move (.t 14)⟩])))
    (.ops [⟨(some 15), none, .bin .add (.t 8) (.c (.sc (.int .i64 (1))))⟩,
      ⟨(some 8), none, .move (.t 15)⟩])))))))
  (.seq (.ops [⟨(some 16), none, .move (.t 3)⟩,
    ⟨(some 2), none, .move (.t 16)⟩])
  (.ret)))),
  [.t 2]⟩
theorem ok185 : EntryOk Tryz.prog 185 af185 := ⟨Tryz.f185, _, Tryz.func185, by decide, rfl, by kernel_rfl, by kernel_rfl, rfl⟩
/-- hemiola/pitch.Check -/
noncomputable def af189 : AF := ⟨40, .seq (.ops [⟨(some 1), none, .box (.t 0)⟩,
    ⟨(some 2), none, .move (.c (.sc (.int .i64 (0))))⟩])
  (.seq (.seq (.ops [⟨(some 4), none, .faddr 0 (.t 1)⟩,
    ⟨(some 5), none, .load none (.t 4)⟩,
    ⟨(some 6), none, .bin .lss (.t 5) (.c (.sc (.int .i64 (0))))⟩,
    ⟨(some 7), none, .move (.t 6)⟩,
    ⟨(some 8), (some (7, false)), .faddr 0 (.t 1)⟩,
    ⟨(some 9), (some (7, false)), .load none (.t 8)⟩,
    ⟨(some 10), (some (7, false)), .bin .gtr (.t 9) (.c (.sc (.int .i64 (6))))⟩,
    ⟨(some 11), none, .pick (.t 7) (.c (.sc (.bool true))) (.t 10)⟩,
    ⟨(some 12), none, .move (.t 11)⟩,
    ⟨(some 13), (some (12, false)), .faddr 1 (.t 1)⟩,
    ⟨(some 14), (some (12, false)), .load none (.t 13)⟩,
    ⟨(some 15), (some (12, false)), .bin .lss (.t 14) (.c (.sc (.int .i64 (-2))))⟩,
    ⟨(some 16), none, .pick (.t 12) (.c (.sc (.bool true))) (.t 15)⟩,
    ⟨(some 17), none, .move (.t 16)⟩,
    ⟨(some 18), (some (17, false)), .faddr 1 (.t 1)⟩,
    ⟨(some 19), (some (17, false)), .load none (.t 18)⟩,
    ⟨(some 20), (some (17, false)), .bin .gtr (.t 19) (.c (.sc (.int .i64 (2))))⟩,
    ⟨(some 21), none, .pick (.t 17) (.c (.sc (.bool true))) (.t 20)⟩,
    ⟨(some 22), none, .move (.t 21)⟩,
    ⟨(some 23), (some (22, false)), .faddr 2 (.t 1)⟩,
    ⟨(some 24), (some (22, false)), .load none (.t 23)⟩,
    ⟨(some 25), (some (22, false)), .bin .lss (.t 24) (.c (.sc (.int .i64 (-1))))⟩,
    ⟨(some 26), none, .pick (.t 22) (.c (.sc (.bool true))) (.t 25)⟩,
    ⟨(some 27), none, .move (.t 26)⟩,
    ⟨(some 28), (some (27, false)), .faddr 2 (.t 1)⟩,
    ⟨(some 29), (some (27, false)), .load none (.t 28)⟩,
    ⟨(some 30), (some (27, false)), .bin .gtr (.t 29) (.c (.sc (.int .i64 (9))))⟩,
    ⟨(some 31), none, .pick (.t 27) (.c (.sc (.bool true))) (.t 30)⟩])
  (.cond (.t 31)
   (.seq (.ops [⟨(some 2), none, .move (.c (.sc (.int .i64 (18))))⟩])
   (.ret))
   (.skip)))
  (.seq (.seq (.ops [⟨(some 32), none, .load (some 3) (.t 1)⟩,
    ⟨(some 33), none, .call (.c (.fn (.func 190) [] [])) [(.t 32)]⟩,
    ⟨(some 3), none, .move (.t 33)⟩])
  (.seq (.ops [⟨(some 34), none, .move (.t 3)⟩,
    ⟨(some 35), none, .bin .lss (.t 34) (.c (.sc (.int .i64 (0))))⟩,
    ⟨(some 36), none, .move (.t 35)⟩,
    ⟨(some 37), (some (36, false)), .move (.t 3)⟩,
    ⟨(some 38), (some (36, false)), .bin .gtr (.t 37) (.c (.sc (.int .i64 (127))))⟩,
    ⟨(some 39), none, .pick (.t 36) (.c (.sc (.bool true))) (.t 38)⟩])
  (.cond (.t 39)
   (.seq (.ops [⟨(some 2), none, .move (.c (.sc (.int .i64 (18))))⟩])
   (.ret))
   (.skip))))
  (.seq (.ops [⟨(some 2), none, .move (.c (.sc (.int .i64 (0))))⟩])
  (.ret)))),
  [.t 2]⟩
theorem ok189 : EntryOk Tryz.prog 189 af189 := ⟨Tryz.f189, _, Tryz.func189, by decide, rfl, by kernel_rfl, by kernel_rfl, rfl⟩
/-- slices.IndexFunc[[]hemiola/api.Spanner,hemiola/api.Spanner] -/
noncomputable def af193 : AF := ⟨19, .seq (.ops [⟨(some 4), none, .move (.c (.sc (.int .i64 (0))))⟩])
  (.seq (.seq (.ops [⟨(some 6), none, .move (.t 0)⟩,
    ⟨(some 7), none, .len (.t 6)⟩,
    ⟨(some 8), none, .move (.c (.sc (.int .i64 (0))))⟩])
  (.block 0 (.loop (.seq (.ops [⟨(some 9), none, .bin .lss (.t 8) (.t 7)⟩])
    (.seq (.cond (.t 9)
     (.skip)
     (.exit 0))
    (.seq (.block 1 (.seq (.ops [⟨(some 10), none, .move (.t 8)⟩,
       ⟨(some 5), none, .move (.t 10)⟩])
     (.seq (.ops [⟨(some 11), none, .move (.t 1)⟩,
       ⟨(some 12), none, .move (.t 0)⟩,
       ⟨(some 13), none, .move (.t 5)⟩,
       ⟨(some 14), none, .iaddrS 7 (.t 12) (.t 13)⟩,
       ⟨(some 15), none, .load (some 7) (.t 14)⟩,
       ⟨(some 16), none, .call (.t 11) [(.t 15)]⟩])
     (.cond (.t 16)
      (.seq (.ops [⟨(some 17), none, .move (.t 5)⟩,
        ⟨(some 4), none, .move (.t 17)⟩])
      (.ret))
      (.skip)))))
    (.ops [⟨(some 18), none, .bin .add (.t 8) (.c (.sc (.int .i64 (1))))⟩,
      ⟨(some 8), none, .move (.t 18)⟩])))))))
  (.seq (.ops [⟨(some 4), none, .move (.c (.sc (.int .i64 (-1))))⟩])
  (.ret))),
  [.t 4]⟩
theorem ok193 : EntryOk Tryz.prog 193 af193 := ⟨Tryz.f193, _, Tryz.func193, by decide, rfl, by kernel_rfl, by kernel_rfl, rfl⟩
/-- slices.ContainsFunc[[]byte,byte] -/
noncomputable def af208 : AF := ⟨9, .seq (.ops [⟨(some 4), none, .move (.c (.sc (.bool false)))⟩])
  (.seq (.ops [⟨(some 5), none, .move (.t 0)⟩,
    ⟨(some 6), none, .move (.t 1)⟩,
    ⟨(some 7), none, .call (.c (.fn (.func 271) [] [])) [(.t 5), (.t 6)]⟩,
    ⟨(some 8), none, .bin .geq (.t 7) (.c (.sc (.int .i64 (0))))⟩,
    ⟨(some 4), none, .move (.t 8)⟩])
  (.ret)),
  [.t 4]⟩
theorem ok208 : EntryOk Tryz.prog 208 af208 := ⟨Tryz.f208, _, Tryz.func208, by decide, rfl, by kernel_rfl, by kernel_rfl, rfl⟩
/-- (*hemiola/check.checker).filled$1$1 -/
noncomputable def af212 : AF := ⟨6, .seq (.ops [⟨(some 1), none, .box (.t 0)⟩,
    ⟨(some 2), none, .move (.c (.sc (.bool false)))⟩])
  (.seq (.ops [⟨(some 3), none, .load (some 13) (.t 1)⟩,
    ⟨(some 4), none, .call (.c (.fn (.func 146) [] [])) [(.t 3)]⟩,
    ⟨(some 5), none, .bin .neq (.t 4) (.c (.sc (.int .i64 (0))))⟩,
    ⟨(some 2), none, .move (.t 5)⟩])
  (.ret)),
  [.t 2]⟩
theorem ok212 : EntryOk Tryz.prog 212 af212 := ⟨Tryz.f212, _, Tryz.func212, by decide, rfl, by kernel_rfl, by kernel_rfl, rfl⟩
/-- (*hemiola/check.checker).filled$1$2$1 -/
noncomputable def af216 : AF := ⟨18, .seq (.ops [⟨(some 4), none, .box (.t 0)⟩,
    ⟨(some 5), none, .move (.c (.sc (.bool false)))⟩])
  (.seq (.draw [⟨false, [4], [], ⟨(some 6), none, .faddr 0 (.t 4)⟩⟩,
    ⟨false, [6], [], ⟨(some 7), none, .load none (.t 6)⟩⟩,
    ⟨false, [1], [], ⟨(some 8), none, .load none (.t 1)⟩⟩,
    ⟨true, [7, 8], [], ⟨(some 9), none, .call (.c (.fn (.func 217) [] [])) [(.t 7), (.t 8)]⟩⟩,
    ⟨true, [9], [], ⟨(some 10), none, .un .not (.t 9)⟩⟩,
    ⟨true, [10], [], ⟨(some 11), none, .move (.t 10)⟩⟩,
    ⟨false, [2, 11], [9], ⟨(some 12), (some (11, true)), .load none (.t 2)⟩⟩,
    ⟨false, [4, 11], [], ⟨(some 13), (some (11, true)), .load (some 2) (.t 4)⟩⟩,
    ⟨false, [3, 11], [], ⟨(some 14), (some (11, true)), .load none (.t 3)⟩⟩,
    ⟨true, [13, 14, 11], [], ⟨(some 15), (some (11, true)), .call (.c (.fn (.func 218) [] [])) [(.t 13), (.t 14)]⟩⟩]
    [⟨(some 16), (some (11, true)), .call (.t 12) [(.t 15)]⟩,
    ⟨(some 17), none, .pick (.t 11) (.t 16) (.c (.sc (.bool false)))⟩,
    ⟨(some 5), none, .move (.t 17)⟩])
  (.ret)),
  [.t 5]⟩
theorem ok216 : EntryOk Tryz.prog 216 af216 := ⟨Tryz.f216, _, Tryz.func216, by decide, rfl, by kernel_rfl, by kernel_rfl, rfl⟩
/-- hemiola/event.within -/
noncomputable def af220 : AF := ⟨12, .seq (.ops [⟨(some 4), none, .move (.c (.sc (.int .i64 (0))))⟩])
  (.seq (.seq (.ops [⟨(some 5), none, .move (.t 0)⟩,
    ⟨(some 6), none, .bin .lss (.t 5) (.c (.sc (.int .i64 (0))))⟩,
    ⟨(some 7), none, .move (.t 6)⟩,
    ⟨(some 8), (some (7, false)), .move (.t 0)⟩,
    ⟨(some 9), (some (7, false)), .move (.t 1)⟩,
    ⟨(some 10), (some (7, false)), .bin .gtr (.t 8) (.t 9)⟩,
    ⟨(some 11), none, .pick (.t 7) (.c (.sc (.bool true))) (.t 10)⟩])
  (.cond (.t 11)
   (.seq (.ops [⟨(some 4), none, .move (.c (.sc (.int .i64 (2))))⟩])
   (.ret))
   (.skip)))
  (.seq (.ops [⟨(some 4), none, .move (.c (.sc (.int .i64 (0))))⟩])
  (.ret))),
  [.t 4]⟩
theorem ok220 : EntryOk Tryz.prog 220 af220 := ⟨Tryz.f220, _, Tryz.func220, by decide, rfl, by kernel_rfl, by kernel_rfl, rfl⟩
/-- hemiola/duration.Check -/
noncomputable def af224 : AF := ⟨21, .seq (.ops [⟨(some 1), none, .box (.t 0)⟩,
    ⟨(some 2), none, .move (.c (.sc (.int .i64 (0))))⟩])
  (.seq (.seq (.ops [⟨(some 3), none, .faddr 0 (.t 1)⟩,
    ⟨(some 4), none, .load none (.t 3)⟩,
    ⟨(some 5), none, .bin .lss (.t 4) (.c (.sc (.int .i64 (-1))))⟩,
    ⟨(some 6), none, .move (.t 5)⟩,
    ⟨(some 7), (some (6, false)), .faddr 0 (.t 1)⟩,
    ⟨(some 8), (some (6, false)), .load none (.t 7)⟩,
    ⟨(some 9), (some (6, false)), .bin .gtr (.t 8) (.c (.sc (.int .i64 (8))))⟩,
    ⟨(some 10), none, .pick (.t 6) (.c (.sc (.bool true))) (.t 9)⟩,
    ⟨(some 11), none, .move (.t 10)⟩,
    ⟨(some 12), (some (11, false)), .faddr 1 (.t 1)⟩,
    ⟨(some 13), (some (11, false)), .load none (.t 12)⟩,
    ⟨(some 14), (some (11, false)), .bin .lss (.t 13) (.c (.sc (.int .i64 (0))))⟩,
    ⟨(some 15), none, .pick (.t 11) (.c (.sc (.bool true))) (.t 14)⟩,
    ⟨(some 16), none, .move (.t 15)⟩,
    ⟨(some 17), (some (16, false)), .faddr 1 (.t 1)⟩,
    ⟨(some 18), (some (16, false)), .load none (.t 17)⟩,
    ⟨(some 19), (some (16, false)), .bin .gtr (.t 18) (.c (.sc (.int .i64 (3))))⟩,
    ⟨(some 20), none, .pick (.t 16) (.c (.sc (.bool true))) (.t 19)⟩])
  (.cond (.t 20)
   (.seq (.ops [⟨(some 2), none, .move (.c (.sc (.int .i64 (17))))⟩])
   (.ret))
   (.skip)))
  (.seq (.ops [⟨(some 2), none, .move (.c (.sc (.int .i64 (0))))⟩])
  (.ret))),
  [.t 2]⟩
theorem ok224 : EntryOk Tryz.prog 224 af224 := ⟨Tryz.f224, _, Tryz.func224, by decide, rfl, by kernel_rfl, by kernel_rfl, rfl⟩
/-- slices.IndexFunc[[]hemiola/api.Grace,hemiola/api.Grace] -/
noncomputable def af228 : AF := ⟨19, .seq (.ops [⟨(some 4), none, .move (.c (.sc (.int .i64 (0))))⟩])
  (.seq (.seq (.ops [⟨(some 6), none, .move (.t 0)⟩,
    ⟨(some 7), none, .len (.t 6)⟩,
    ⟨(some 8), none, .move (.c (.sc (.int .i64 (0))))⟩])
  (.block 0 (.loop (.seq (.ops [⟨(some 9), none, .bin .lss (.t 8) (.t 7)⟩])
    (.seq (.cond (.t 9)
     (.skip)
     (.exit 0))
    (.seq (.block 1 (.seq (.ops [⟨(some 10), none, .move (.t 8)⟩,
       ⟨(some 5), none, .move (.t 10)⟩])
     (.seq (.ops [⟨(some 11), none, .move (.t 1)⟩,
       ⟨(some 12), none, .move (.t 0)⟩,
       ⟨(some 13), none, .move (.t 5)⟩,
       ⟨(some 14), none, .iaddrS 5 (.t 12) (.t 13)⟩,
       ⟨(some 15), none, .load (some 5) (.t 14)⟩,
       ⟨(some 16), none, .call (.t 11) [(.t 15)]⟩])
     (.cond (.t 16)
      (.seq (.ops [⟨(some 17), none, .move (.t 5)⟩,
        ⟨(some 4), none, .move (.t 17)⟩])
      (.ret))
      (.skip)))))
    (.ops [⟨(some 18), none, .bin .add (.t 8) (.c (.sc (.int .i64 (1))))⟩,
      ⟨(some 8), none, .move (.t 18)⟩])))))))
  (.seq (.ops [⟨(some 4), none, .move (.c (.sc (.int .i64 (-1))))⟩])
  (.ret))),
  [.t 4]⟩
theorem ok228 : EntryOk Tryz.prog 228 af228 := ⟨Tryz.f228, _, Tryz.func228, by decide, rfl, by kernel_rfl, by kernel_rfl, rfl⟩
/-- hemiola/check.absent -/
noncomputable def af235 : AF := ⟨19, .seq (.ops [⟨(some 2), none, .box (.t 0)⟩,
    ⟨(some 4), none, .move (.c (.sc (.bool false)))⟩])
  (.seq (.ops [⟨(some 5), none, .move (.t 1)⟩,
    ⟨(some 6), none, .faddr 10 (.t 2)⟩,
    ⟨(some 7), none, .load none (.t 6)⟩,
    ⟨(some 8), none, .len (.t 7)⟩,
    ⟨(some 9), none, .bin .geq (.t 5) (.t 8)⟩,
    ⟨(some 10), none, .move (.t 9)⟩,
    ⟨(some 11), (some (10, false)), .faddr 10 (.t 2)⟩,
    ⟨(some 12), (some (10, false)), .load none (.t 11)⟩,
    ⟨(some 13), (some (10, false)), .move (.t 1)⟩,
    ⟨(some 14), (some (10, false)), .iaddrS 2 (.t 12) (.t 13)⟩,
    ⟨(some 15), (some (10, false)), .load (some 2) (.t 14)⟩,
    ⟨(some 16), (some (10, false)), .build [(.sc (.string ⟨#[]⟩)), (.sc (.int .i64 (0)))] []⟩,
    ⟨(some 17), (some (10, false)), .eqC [.s, .i] false (.t 15) (.t 16)⟩,
    ⟨(some 18), none, .pick (.t 10) (.c (.sc (.bool true))) (.t 17)⟩,
    ⟨(some 4), none, .move (.t 18)⟩])
  (.ret)),
  [.t 4]⟩
theorem ok235 : EntryOk Tryz.prog 235 af235 := ⟨Tryz.f235, _, Tryz.func235, by decide, rfl, by kernel_rfl, by kernel_rfl, rfl⟩
/-- slices.stableCmpFunc[hemiola/api.Note] -/
noncomputable def af253 : AF := ⟨63, .seq (.ops [⟨(some 6), none, .move (.c (.sc (.int .i64 (20))))⟩])
  (.seq (.ops [⟨(some 10), none, .move (.t 6)⟩,
    ⟨(some 7), none, .move (.c (.sc (.int .i64 (0))))⟩,
    ⟨(some 8), none, .move (.t 10)⟩])
  (.seq (.block 0 (.loop (.seq (.seq (.ops [⟨(some 11), none, .move (.t 8)⟩,
      ⟨(some 12), none, .move (.t 1)⟩,
      ⟨(some 13), none, .bin .leq (.t 11) (.t 12)⟩])
    (.cond (.t 13)
     (.skip)
     (.exit 0)))
    (.block 1 (.seq (.ops [⟨(some 14), none, .move (.t 0)⟩,
       ⟨(some 15), none, .move (.t 7)⟩,
       ⟨(some 16), none, .move (.t 8)⟩,
       ⟨(some 17), none, .move (.t 2)⟩,
       ⟨(some 18), none, .call (.c (.fn (.func 294) [] [])) [(.t 14), (.t 15), (.t 16), (.t 17)]⟩])
     (.seq (.ops [⟨(some 19), none, .move (.t 8)⟩,
       ⟨(some 7), none, .move (.t 19)⟩])
     (.ops [⟨(some 20), none, .move (.t 8)⟩,
       ⟨(some 21), none, .move (.t 6)⟩,
       ⟨(some 22), none, .bin .add (.t 20) (.t 21)⟩,
       ⟨(some 8), none, .move (.t 22)⟩])))))))
  (.seq (.ops [⟨(some 23), none, .move (.t 0)⟩,
    ⟨(some 24), none, .move (.t 7)⟩,
    ⟨(some 25), none, .move (.t 1)⟩,
    ⟨(some 26), none, .move (.t 2)⟩,
    ⟨(some 27), none, .call (.c (.fn (.func 294) [] [])) [(.t 23), (.t 24), (.t 25), (.t 26)]⟩])
  (.block 2 (.loop (.seq (.seq (.ops [⟨(some 28), none, .move (.t 6)⟩,
      ⟨(some 29), none, .move (.t 1)⟩,
      ⟨(some 30), none, .bin .lss (.t 28) (.t 29)⟩])
    (.cond (.t 30)
     (.skip)
     (.exit 2)))
    (.block 3 (.seq (.ops [⟨(some 31), none, .move (.t 6)⟩,
       ⟨(some 32), none, .bin .mul (.c (.sc (.int .i64 (2)))) (.t 31)⟩,
       ⟨(some 7), none, .move (.c (.sc (.int .i64 (0))))⟩,
       ⟨(some 8), none, .move (.t 32)⟩])
     (.seq (.block 4 (.loop (.seq (.seq (.ops [⟨(some 33), none, .move (.t 8)⟩,
         ⟨(some 34), none, .move (.t 1)⟩,
         ⟨(some 35), none, .bin .leq (.t 33) (.t 34)⟩])
       (.cond (.t 35)
        (.skip)
        (.exit 4)))
       (.block 5 (.seq (.ops [⟨(some 36), none, .move (.t 0)⟩,
          ⟨(some 37), none, .move (.t 7)⟩,
          ⟨(some 38), none, .move (.t 7)⟩,
          ⟨(some 39), none, .move (.t 6)⟩,
          ⟨(some 40), none, .bin .add (.t 38) (.t 39)⟩,
          ⟨(some 41), none, .move (.t 8)⟩,
          ⟨(some 42), none, .move (.t 2)⟩,
          ⟨(some 43), none, .call (.c (.fn (.func 295) [] [])) [(.t 36), (.t 37), (.t 40), (.t 41), (.t 42)]⟩])
        (.seq (.ops [⟨(some 44), none, .move (.t 8)⟩,
          ⟨(some 7), none, .move (.t 44)⟩])
        (.ops [⟨(some 45), none, .move (.t 8)⟩,
          ⟨(some 46), none, .move (.t 6)⟩,
          ⟨(some 47), none, .bin .mul (.c (.sc (.int .i64 (2)))) (.t 46)⟩,
          ⟨(some 48), none, .bin .add (.t 45) (.t 47)⟩,
          ⟨(some 8), none, .move (.t 48)⟩])))))))
     (.seq (.seq (.ops [⟨(some 49), none, .move (.t 7)⟩,
       ⟨(some 50), none, .move (.t 6)⟩,
       ⟨(some 51), none, .bin .add (.t 49) (.t 50)⟩,
       ⟨(some 9), none, .move (.t 51)⟩])
     (.seq (.ops [⟨(some 52), none, .move (.t 9)⟩,
       ⟨(some 53), none, .move (.t 1)⟩,
       ⟨(some 54), none, .bin .lss (.t 52) (.t 53)⟩])
     (.cond (.t 54)
      (.ops [⟨(some 55), none, .move (.t 0)⟩,
        ⟨(some 56), none, .move (.t 7)⟩,
        ⟨(some 57), none, .move (.t 9)⟩,
        ⟨(some 58), none, .move (.t 1)⟩,
        ⟨(some 59), none, .move (.t 2)⟩,
        ⟨(some 60), none, .call (.c (.fn (.func 295) [] [])) [(.t 55), (.t 56), (.t 57), (.t 58), (.t 59)]⟩])
      (.skip))))
     (.ops [⟨(some 61), none, .move (.t 6)⟩,
       ⟨(some 62), none, .bin .mul (.t 61) (.c (.sc (.int .i64 (2))))⟩,
       ⟨(some 6), none, .move (.t 62)⟩]))))))))))),
  []⟩
theorem ok253 : EntryOk Tryz.prog 253 af253 := ⟨Tryz.f253, _, Tryz.func253, by decide, rfl, by kernel_rfl, by kernel_rfl, rfl⟩
/-- hemiola/metre.grouped -/
noncomputable def af257 : AF := ⟨50, .seq (.ops [⟨(some 1), none, .box (.t 0)⟩,
    ⟨(some 2), none, .move (.c (.sc (.bool false)))⟩])
  (.seq (.seq (.ops [⟨(some 7), none, .faddr 2 (.t 1)⟩,
    ⟨(some 8), none, .load (some 6) (.t 7)⟩,
    ⟨(some 9), none, .build [(.sc (.int .i64 (0))), (.sc (.int .i64 (0))), (.sc (.int .i64 (0))), (.sc (.int .i64 (0))), (.sc (.int .i64 (0))), (.sc (.int .i64 (0)))] []⟩,
    ⟨(some 10), none, .eqC [.i, .i, .i, .i, .i, .i] false (.t 8) (.t 9)⟩])
  (.cond (.t 10)
   (.seq (.ops [⟨(some 2), none, .move (.c (.sc (.bool true)))⟩])
   (.ret))
   (.skip)))
  (.seq (.ops [⟨(some 3), none, .move (.c (.sc (.int .i64 (0))))⟩,
    ⟨(some 4), none, .move (.c (.sc (.int .i64 (0))))⟩])
  (.seq (.seq (.ops [⟨(some 11), none, .faddr 2 (.t 1)⟩,
    ⟨(some 12), none, .load (some 6) (.t 11)⟩,
    ⟨(some 13), none, .move (.c (.sc (.int .i64 (0))))⟩])
  (.block 0 (.loop (.seq (.ops [⟨(some 14), none, .bin .lss (.t 13) (.c (.sc (.int .i64 (6))))⟩])
    (.seq (.cond (.t 14)
     (.skip)
     (.exit 0))
    (.seq (.block 1 (.seq (.ops [⟨(some 15), none, .move (.t 13)⟩,
       ⟨(some 16), none, .idxA 1 6 none (.t 12) (.t 13)⟩,
       ⟨(some 5), none, .move (.t 15)⟩,
       ⟨(some 6), none, .move (.t 16)⟩])
     (.block 2 (.seq (.ops [⟨(some 18), none, .move (.t 6)⟩,
        ⟨(some 19), none, .bin .lss (.t 18) (.c (.sc (.int .i64 (0))))⟩,
        ⟨(some 20), none, .move (.t 19)⟩,
        ⟨(some 21), (some (20, false)), .move (.t 6)⟩,
        ⟨(some 22), (some (20, false)), .bin .gtr (.t 21) (.c (.sc (.int .i64 (64))))⟩,
        ⟨(some 23), none, .pick (.t 20) (.c (.sc (.bool true))) (.t 22)⟩,
        ⟨(some 24), none, .move (.t 23)⟩,
        ⟨(some 25), (some (24, false)), .move (.t 6)⟩,
        ⟨(some 26), (some (24, false)), .bin .gtr (.t 25) (.c (.sc (.int .i64 (0))))⟩,
        ⟨(some 27), (some (24, false)), .move (.t 26)⟩,
        ⟨(some 28), (some (27, true)), .move (.t 5)⟩,
        ⟨(some 29), (some (27, true)), .move (.t 4)⟩,
        ⟨(some 30), (some (27, true)), .bin .neq (.t 28) (.t 29)⟩,
        ⟨(some 31), (some (24, false)), .pick (.t 27) (.t 30) (.c (.sc (.bool false)))⟩,
        ⟨(some 32), none, .pick (.t 24) (.c (.sc (.bool true))) (.t 31)⟩,
        ⟨(some 17), none, .move (.t 32)⟩])
      (.cond (.t 17)
       (.seq (.ops [⟨(some 2), none, .move (.c (.sc (.bool false)))⟩])
       (.ret))
       (.seq (.ops [⟨(some 34), none, .move (.t 6)⟩,
         ⟨(some 35), none, .bin .gtr (.t 34) (.c (.sc (.int .i64 (0))))⟩,
         ⟨(some 33), none, .move (.t 35)⟩])
       (.cond (.t 33)
        (.ops [⟨(some 36), none, .move (.t 3)⟩,
          ⟨(some 37), none, .move (.t 6)⟩,
          ⟨(some 38), none, .bin .add (.t 36) (.t 37)⟩,
          ⟨(some 39), none, .move (.t 4)⟩,
          ⟨(some 40), none, .bin .add (.t 39) (.c (.sc (.int .i64 (1))))⟩,
          ⟨(some 3), none, .move (.t 38)⟩,
          ⟨(some 4), none, .move (.t 40)⟩])
        (.skip))))))))
    (.ops [⟨(some 41), none, .bin .add (.t 13) (.c (.sc (.int .i64 (1))))⟩,
      ⟨(some 13), none, .move (.t 41)⟩])))))))
  (.seq (.ops [⟨(some 42), none, .move (.t 3)⟩,
    ⟨(some 43), none, .faddr 0 (.t 1)⟩,
    ⟨(some 44), none, .load none (.t 43)⟩,
    ⟨(some 45), none, .bin .eql (.t 42) (.t 44)⟩,
    ⟨(some 46), none, .move (.t 45)⟩,
    ⟨(some 47), (some (46, true)), .move (.t 4)⟩,
    ⟨(some 48), (some (46, true)), .bin .geq (.t 47) (.c (.sc (.int .i64 (2))))⟩,
    ⟨(some 49), none, .pick (.t 46) (.t 48) (.c (.sc (.bool false)))⟩,
    ⟨(some 2), none, .move (.t 49)⟩])
  (.ret))))),
  [.t 2]⟩
theorem ok257 : EntryOk Tryz.prog 257 af257 := ⟨Tryz.f257, _, Tryz.func257, by decide, rfl, by kernel_rfl, by kernel_rfl, rfl⟩
/-- (*hemiola/tempo.Map).Ticks -/
noncomputable def af261 : AF := ⟨6, .seq (.ops [⟨(some 2), none, .move (.c (.sc (.int .i64 (0))))⟩])
  (.seq (.ops [⟨(some 3), none, .move (.t 0)⟩,
    ⟨(some 4), none, .call (.c (.fn (.func 301) [] [])) [(.t 3)]⟩,
    ⟨(some 5), none, .field 1 none (.t 4)⟩,
    ⟨(some 2), none, .move (.t 5)⟩])
  (.ret)),
  [.t 2]⟩
theorem ok261 : EntryOk Tryz.prog 261 af261 := ⟨Tryz.f261, _, Tryz.func261, by decide, rfl, by kernel_rfl, by kernel_rfl, rfl⟩
/-- slices.IndexFunc[[]byte,byte] -/
noncomputable def af271 : AF := ⟨19, .seq (.ops [⟨(some 4), none, .move (.c (.sc (.int .i64 (0))))⟩])
  (.seq (.seq (.ops [⟨(some 6), none, .move (.t 0)⟩,
    ⟨(some 7), none, .len (.t 6)⟩,
    ⟨(some 8), none, .move (.c (.sc (.int .i64 (0))))⟩])
  (.block 0 (.loop (.seq (.ops [⟨(some 9), none, .bin .lss (.t 8) (.t 7)⟩])
    (.seq (.cond (.t 9)
     (.skip)
     (.exit 0))
    (.seq (.block 1 (.seq (.ops [⟨(some 10), none, .move (.t 8)⟩,
       ⟨(some 5), none, .move (.t 10)⟩])
     (.seq (.ops [⟨(some 11), none, .move (.t 1)⟩,
       ⟨(some 12), none, .move (.t 0)⟩,
       ⟨(some 13), none, .move (.t 5)⟩,
       ⟨(some 14), none, .iaddrS 1 (.t 12) (.t 13)⟩,
       ⟨(some 15), none, .load none (.t 14)⟩,
       ⟨(some 16), none, .call (.t 11) [(.t 15)]⟩])
     (.cond (.t 16)
      (.seq (.ops [⟨(some 17), none, .move (.t 5)⟩,
        ⟨(some 4), none, .move (.t 17)⟩])
      (.ret))
      (.skip)))))
    (.ops [⟨(some 18), none, .bin .add (.t 8) (.c (.sc (.int .i64 (1))))⟩,
      ⟨(some 8), none, .move (.t 18)⟩])))))))
  (.seq (.ops [⟨(some 4), none, .move (.c (.sc (.int .i64 (-1))))⟩])
  (.ret))),
  [.t 4]⟩
theorem ok271 : EntryOk Tryz.prog 271 af271 := ⟨Tryz.f271, _, Tryz.func271, by decide, rfl, by kernel_rfl, by kernel_rfl, rfl⟩
/-- slices.IndexFunc[[]hemiola/api.Voice,hemiola/api.Voice] -/
noncomputable def af275 : AF := ⟨19, .seq (.ops [⟨(some 4), none, .move (.c (.sc (.int .i64 (0))))⟩])
  (.seq (.seq (.ops [⟨(some 6), none, .move (.t 0)⟩,
    ⟨(some 7), none, .len (.t 6)⟩,
    ⟨(some 8), none, .move (.c (.sc (.int .i64 (0))))⟩])
  (.block 0 (.loop (.seq (.ops [⟨(some 9), none, .bin .lss (.t 8) (.t 7)⟩])
    (.seq (.cond (.t 9)
     (.skip)
     (.exit 0))
    (.seq (.block 1 (.seq (.ops [⟨(some 10), none, .move (.t 8)⟩,
       ⟨(some 5), none, .move (.t 10)⟩])
     (.seq (.ops [⟨(some 11), none, .move (.t 1)⟩,
       ⟨(some 12), none, .move (.t 0)⟩,
       ⟨(some 13), none, .move (.t 5)⟩,
       ⟨(some 14), none, .iaddrS 2 (.t 12) (.t 13)⟩,
       ⟨(some 15), none, .load (some 2) (.t 14)⟩,
       ⟨(some 16), none, .call (.t 11) [(.t 15)]⟩])
     (.cond (.t 16)
      (.seq (.ops [⟨(some 17), none, .move (.t 5)⟩,
        ⟨(some 4), none, .move (.t 17)⟩])
      (.ret))
      (.skip)))))
    (.ops [⟨(some 18), none, .bin .add (.t 8) (.c (.sc (.int .i64 (1))))⟩,
      ⟨(some 8), none, .move (.t 18)⟩])))))))
  (.seq (.ops [⟨(some 4), none, .move (.c (.sc (.int .i64 (-1))))⟩])
  (.ret))),
  [.t 4]⟩
theorem ok275 : EntryOk Tryz.prog 275 af275 := ⟨Tryz.f275, _, Tryz.func275, by decide, rfl, by kernel_rfl, by kernel_rfl, rfl⟩
/-- slices.Equal[[]hemiola/api.Syllable,hemiola/api.Syllable] -/
noncomputable def af279 : AF := ⟨26, .seq (.ops [⟨(some 4), none, .move (.c (.sc (.bool false)))⟩])
  (.seq (.seq (.ops [⟨(some 6), none, .move (.t 0)⟩,
    ⟨(some 7), none, .len (.t 6)⟩,
    ⟨(some 8), none, .move (.t 1)⟩,
    ⟨(some 9), none, .len (.t 8)⟩,
    ⟨(some 10), none, .bin .neq (.t 7) (.t 9)⟩])
  (.cond (.t 10)
   (.seq (.ops [⟨(some 4), none, .move (.c (.sc (.bool false)))⟩])
   (.ret))
   (.skip)))
  (.seq (.seq (.ops [⟨(some 11), none, .move (.t 0)⟩,
    ⟨(some 12), none, .len (.t 11)⟩,
    ⟨(some 13), none, .move (.c (.sc (.int .i64 (0))))⟩])
  (.block 0 (.loop (.seq (.ops [⟨(some 14), none, .bin .lss (.t 13) (.t 12)⟩])
    (.seq (.cond (.t 14)
     (.skip)
     (.exit 0))
    (.seq (.block 1 (.seq (.ops [⟨(some 15), none, .move (.t 13)⟩,
       ⟨(some 5), none, .move (.t 15)⟩])
     (.seq (.draw [⟨false, [0], [], ⟨(some 16), none, .move (.t 0)⟩⟩,
       ⟨false, [5], [], ⟨(some 17), none, .move (.t 5)⟩⟩,
       ⟨false, [16, 17], [], ⟨(some 18), none, .iaddrS 2 (.t 16) (.t 17)⟩⟩,
       ⟨false, [18], [], ⟨(some 19), none, .load (some 2) (.t 18)⟩⟩,
       ⟨false, [1], [], ⟨(some 20), none, .move (.t 1)⟩⟩,
       ⟨false, [5], [], ⟨(some 21), none, .move (.t 5)⟩⟩,
       ⟨false, [20, 21], [], ⟨(some 22), none, .iaddrS 2 (.t 20) (.t 21)⟩⟩,
       ⟨false, [22], [], ⟨(some 23), none, .load (some 2) (.t 22)⟩⟩]
       [⟨(some 24), none, .eqC [.s, .i] true (.t 19) (.t 23)⟩])
     (.cond (.t 24)
      (.seq (.ops [⟨(some 4), none, .move (.c (.sc (.bool false)))⟩])
      (.ret))
      (.skip)))))
    (.ops [⟨(some 25), none, .bin .add (.t 13) (.c (.sc (.int .i64 (1))))⟩,
      ⟨(some 13), none, .move (.t 25)⟩])))))))
  (.seq (.ops [⟨(some 4), none, .move (.c (.sc (.bool true)))⟩])
  (.ret)))),
  [.t 4]⟩
theorem ok279 : EntryOk Tryz.prog 279 af279 := ⟨Tryz.f279, _, Tryz.func279, by decide, rfl, by kernel_rfl, by kernel_rfl, rfl⟩
/-- hemiola/tuplet.Lengths -/
noncomputable def af299 : AF := ⟨45, .seq (.ops [⟨(some 4), none, .move (.c (.sl true .full 0 []))⟩,
    ⟨(some 5), none, .move (.c (.sc (.int .i64 (0))))⟩])
  (.seq (.seq (.ops [⟨(some 12), none, .move (.t 0)⟩,
    ⟨(some 13), none, .move (.t 1)⟩,
    ⟨(some 14), none, .len (.t 13)⟩,
    ⟨(some 15), none, .call (.c (.fn (.func 308) [] [])) [(.t 12), (.t 14)]⟩,
    ⟨(some 6), none, .move (.t 15)⟩])
  (.seq (.ops [⟨(some 16), none, .move (.t 6)⟩,
    ⟨(some 17), none, .bin .neq (.t 16) (.c (.sc (.int .i64 (0))))⟩])
  (.cond (.t 17)
   (.seq (.ops [⟨(some 18), none, .move (.t 6)⟩,
     ⟨(some 4), none, .move (.c (.sl true .full 0 []))⟩,
     ⟨(some 5), none, .move (.t 18)⟩])
   (.ret))
   (.skip))))
  (.seq (.ops [⟨(some 19), none, .move (.t 1)⟩,
    ⟨(some 20), none, .len (.t 19)⟩,
    ⟨(some 21), none, .mkSl 1 8 [(.sc (.int .i64 (0)))] (.c (.sc (.int .i64 (0)))) (.t 20)⟩,
    ⟨(some 7), none, .move (.t 21)⟩])
  (.seq (.seq (.ops [⟨(some 22), none, .move (.t 1)⟩,
    ⟨(some 23), none, .len (.t 22)⟩,
    ⟨(some 24), none, .move (.c (.sc (.int .i64 (0))))⟩])
  (.block 0 (.loop (.seq (.ops [⟨(some 25), none, .bin .lss (.t 24) (.t 23)⟩])
    (.seq (.cond (.t 25)
     (.skip)
     (.exit 0))
    (.seq (.block 1 (.seq (.ops [⟨(some 26), none, .move (.t 24)⟩,
       ⟨(some 27), none, .iaddrS 1 (.t 22) (.t 24)⟩,
       ⟨(some 28), none, .load none (.t 27)⟩,
       ⟨(some 8), none, .move (.t 26)⟩,
       ⟨(some 9), none, .move (.t 28)⟩])
     (.seq (.ops [⟨(some 30), none, .move (.t 0)⟩,
       ⟨(some 31), none, .move (.t 8)⟩,
       ⟨(some 32), none, .move (.t 9)⟩,
       ⟨(some 33), none, .call (.c (.fn (.func 309) [] [])) [(.t 30), (.t 31), (.t 32)]⟩,
       ⟨(some 29), none, .move (.t 33)⟩,
       ⟨(some 34), none, .extract 0 (.t 29)⟩,
       ⟨(some 35), none, .extract 1 (.t 29)⟩,
       ⟨(some 10), none, .move (.t 34)⟩,
       ⟨(some 11), none, .move (.t 35)⟩])
     (.seq (.seq (.ops [⟨(some 36), none, .move (.t 11)⟩,
       ⟨(some 37), none, .bin .neq (.t 36) (.c (.sc (.int .i64 (0))))⟩])
     (.cond (.t 37)
      (.seq (.ops [⟨(some 38), none, .move (.t 11)⟩,
        ⟨(some 4), none, .move (.c (.sl true .full 0 []))⟩,
        ⟨(some 5), none, .move (.t 38)⟩])
      (.ret))
      (.skip)))
     (.ops [⟨(some 39), none, .move (.t 7)⟩,
       ⟨(some 40), none, .move (.t 10)⟩,
       ⟨(some 41), none, .buildSl 1 [(.t 40)]⟩,
       ⟨(some 42), none, .append 1 8 (.t 39) (.t 41)⟩,
       ⟨(some 7), none, .move (.t 42)⟩])))))
    (.ops [⟨(some 43), none, .bin .add (.t 24) (.c (.sc (.int .i64 (1))))⟩,
      ⟨(some 24), none, .move (.t 43)⟩])))))))
  (.seq (.ops [⟨(some 44), none, .move (.t 7)⟩,
    ⟨(some 4), none, .move (.t 44)⟩,
    ⟨(some 5), none, .move (.c (.sc (.int .i64 (0))))⟩])
  (.ret))))),
  [.t 4, .t 5]⟩
theorem ok299 : EntryOk Tryz.prog 299 af299 := ⟨Tryz.f299, _, Tryz.func299, by decide, rfl, by kernel_rfl, by kernel_rfl, rfl⟩
/-- hemiola/event.Written -/
noncomputable def af307 : AF := ⟨20, .seq (.ops [⟨(some 1), none, .box (.t 0)⟩,
    ⟨(some 2), none, .move (.c (.sc (.int .i64 (0))))⟩,
    ⟨(some 3), none, .move (.c (.sc (.int .i64 (0))))⟩])
  (.seq (.seq (.ops [⟨(some 5), none, .load (some 13) (.t 1)⟩,
    ⟨(some 6), none, .call (.c (.fn (.func 146) [] [])) [(.t 5)]⟩,
    ⟨(some 4), none, .move (.t 6)⟩])
  (.seq (.ops [⟨(some 7), none, .move (.t 4)⟩,
    ⟨(some 8), none, .bin .neq (.t 7) (.c (.sc (.int .i64 (0))))⟩,
    ⟨(some 9), none, .move (.t 8)⟩,
    ⟨(some 10), (some (9, false)), .faddr 2 (.t 1)⟩,
    ⟨(some 11), (some (9, false)), .load none (.t 10)⟩,
    ⟨(some 12), (some (9, false)), .bin .eql (.t 11) (.c (.sc (.int .i64 (3))))⟩,
    ⟨(some 13), none, .pick (.t 9) (.c (.sc (.bool true))) (.t 12)⟩])
  (.cond (.t 13)
   (.seq (.ops [⟨(some 14), none, .move (.t 4)⟩,
     ⟨(some 2), none, .move (.c (.sc (.int .i64 (0))))⟩,
     ⟨(some 3), none, .move (.t 14)⟩])
   (.ret))
   (.skip))))
  (.seq (.ops [⟨(some 15), none, .faddr 3 (.t 1)⟩,
    ⟨(some 16), none, .load (some 2) (.t 15)⟩,
    ⟨(some 17), none, .call (.c (.fn (.func 312) [] [])) [(.t 16)]⟩,
    ⟨(some 18), none, .extract 0 (.t 17)⟩,
    ⟨(some 19), none, .extract 1 (.t 17)⟩,
    ⟨(some 2), none, .move (.t 18)⟩,
    ⟨(some 3), none, .move (.t 19)⟩])
  (.ret))),
  [.t 2, .t 3]⟩
theorem ok307 : EntryOk Tryz.prog 307 af307 := ⟨Tryz.f307, _, Tryz.func307, by decide, rfl, by kernel_rfl, by kernel_rfl, rfl⟩
/-- hemiola/tuplet.product -/
noncomputable def af317 : AF := ⟨38, .seq (.ops [⟨(some 4), none, .move (.c (.sc (.int .i64 (0))))⟩,
    ⟨(some 5), none, .move (.c (.sc (.int .i64 (0))))⟩])
  (.seq (.ops [⟨(some 4), none, .move (.c (.sc (.int .i64 (1))))⟩,
    ⟨(some 5), none, .move (.c (.sc (.int .i64 (1))))⟩])
  (.seq (.seq (.ops [⟨(some 9), none, .move (.t 0)⟩,
    ⟨(some 10), none, .len (.t 9)⟩,
    ⟨(some 11), none, .move (.c (.sc (.int .i64 (0))))⟩])
  (.block 0 (.loop (.seq (.ops [⟨(some 12), none, .bin .lss (.t 11) (.t 10)⟩])
    (.seq (.cond (.t 12)
     (.skip)
     (.exit 0))
    (.seq (.block 1 (.seq (.ops [⟨(some 13), none, .iaddrS 4 (.t 9) (.t 11)⟩,
       ⟨(some 14), none, .load (some 4) (.t 13)⟩,
       ⟨(some 7), none, .alloc [(.sc (.int .i64 (0))), (.sc (.int .i64 (0))), (.sc (.int .i64 (0))), (.sc (.int .i64 (0)))]⟩,
       ⟨none, none, .store 4 (.t 7) (.t 14)⟩])
     (.seq (.ops [⟨(some 15), none, .load (some 4) (.t 7)⟩,
       ⟨(some 16), none, .move (.t 1)⟩,
       ⟨(some 17), none, .call (.c (.fn (.func 319) [] [])) [(.t 15), (.t 16)]⟩])
     (.cond (.t 17)
      (.seq (.draw [⟨false, [4], [], ⟨(some 18), none, .move (.t 4)⟩⟩,
        ⟨false, [7], [], ⟨(some 19), none, .faddr 3 (.t 7)⟩⟩,
        ⟨false, [19], [], ⟨(some 20), none, .load none (.t 19)⟩⟩,
        ⟨false, [18, 20], [], ⟨(some 21), none, .bin .mul (.t 18) (.t 20)⟩⟩,
        ⟨false, [5], [], ⟨(some 22), none, .move (.t 5)⟩⟩,
        ⟨false, [7], [], ⟨(some 23), none, .faddr 2 (.t 7)⟩⟩,
        ⟨false, [23], [], ⟨(some 24), none, .load none (.t 23)⟩⟩,
        ⟨false, [22, 24], [], ⟨(some 25), none, .bin .mul (.t 22) (.t 24)⟩⟩,
        ⟨false, [21], [], ⟨(some 4), none, .move (.t 21)⟩⟩]
        [⟨(some 5), none, .move (.t 25)⟩])
      (.seq (.ops [⟨(some 26), none, .move (.t 4)⟩,
        ⟨(some 27), none, .move (.t 5)⟩,
        ⟨(some 28), none, .call (.c (.fn (.func 320) [] [])) [(.t 26), (.t 27)]⟩,
        ⟨(some 8), none, .move (.t 28)⟩])
      (.draw [⟨true, [4], [], ⟨(some 29), none, .move (.t 4)⟩⟩,
        ⟨true, [8], [], ⟨(some 30), none, .move (.t 8)⟩⟩,
        ⟨true, [29, 30], [], ⟨(some 31), none, .bin .quo (.t 29) (.t 30)⟩⟩,
        ⟨true, [5], [], ⟨(some 32), none, .move (.t 5)⟩⟩,
        ⟨true, [8], [], ⟨(some 33), none, .move (.t 8)⟩⟩,
        ⟨true, [32, 33], [], ⟨(some 34), none, .bin .quo (.t 32) (.t 33)⟩⟩,
        ⟨true, [31], [], ⟨(some 4), none, .move (.t 31)⟩⟩]
        [⟨(some 5), none, .move (.t 34)⟩])))
      (.skip)))))
    (.ops [⟨(some 35), none, .bin .add (.t 11) (.c (.sc (.int .i64 (1))))⟩,
      ⟨(some 11), none, .move (.t 35)⟩])))))))
  (.seq (.ops [⟨(some 36), none, .move (.t 4)⟩,
    ⟨(some 37), none, .move (.t 5)⟩,
    ⟨(some 4), none, .move (.t 36)⟩,
    ⟨(some 5), none, .move (.t 37)⟩])
  (.ret)))),
  [.t 4, .t 5]⟩
theorem ok317 : EntryOk Tryz.prog 317 af317 := ⟨Tryz.f317, _, Tryz.func317, by decide, rfl, by kernel_rfl, by kernel_rfl, rfl⟩
end Go.Proofs.YtmbchdfgckmpoaaGreat
