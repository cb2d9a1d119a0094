/- Resolved code, printed by a program. -/
import Derived.Test.YtfhijafkpenogaaGreatDoorPE19
import Derived.Test.YtfhijafkpenogaaGreatDoorProg
namespace Go.Proofs.YtfhijafkpenogaaGreatDoor
open Go.PE

/-- hemiola/hemiolalaw16.example -/
noncomputable def af9 : AF := ⟨24, .seq (.ops [⟨(some 0), none, .alloc [(.sc (.string ⟨#[]⟩)), (.sc (.bool false)), (.sl true .full 0 []), (.sl true .full 0 []), (.sl true .full 0 []), (.sl true .full 0 [])]⟩])
  (.seq (.ops [⟨(some 2), none, .build [(.sc (.int .i64 (0))), (.sc (.int .i64 (0)))] [((1, 1), (.c (.sc (.int .i64 (3)))))]⟩,
    ⟨(some 3), none, .build [(.sc (.int .i64 (0))), (.sc (.int .i64 (0))), (.sc (.int .i64 (0))), (.sc (.int .i64 (0))), (.sc (.int .i64 (0))), (.sc (.int .i64 (0))), (.sc (.int .i64 (0))), (.sc (.int .i64 (0)))] [((0, 1), (.c (.sc (.int .i64 (4))))), ((1, 1), (.c (.sc (.int .i64 (4)))))]⟩,
    ⟨(some 4), none, .build [(.sc (.int .i64 (0))), (.sc (.int .i64 (0))), (.sc (.int .i64 (0))), (.sc (.int .i64 (0))), (.sc (.int .i64 (0))), (.sc (.int .i64 (0))), (.sc (.int .i64 (0))), (.sc (.int .i64 (0))), (.sc (.int .i64 (0))), (.sc (.int .i64 (0))), (.sc (.int .i64 (0))), (.sc (.int .i64 (0))), (.sc (.bool false)), (.sc (.int .i64 (0))), (.sc (.int .i64 (0))), (.sc (.int .i64 (0))), (.sc (.int .i64 (0))), (.sc (.int .i64 (0))), (.sc (.int .i64 (0))), (.sc (.string ⟨#[]⟩)), (.sl true .full 0 []), (.sl true .full 0 [])] [((0, 2), (.t 2)), ((2, 8), (.t 3))]⟩,
    ⟨(some 1), none, .alloc [(.sc (.int .i64 (0))), (.sc (.int .i64 (0))), (.sc (.int .i64 (0))), (.sc (.int .i64 (0))), (.sc (.int .i64 (0))), (.sc (.int .i64 (0))), (.sc (.int .i64 (0))), (.sc (.int .i64 (0))), (.sc (.int .i64 (0))), (.sc (.int .i64 (0))), (.sc (.int .i64 (0))), (.sc (.int .i64 (0))), (.sc (.bool false)), (.sc (.int .i64 (0))), (.sc (.int .i64 (0))), (.sc (.int .i64 (0))), (.sc (.int .i64 (0))), (.sc (.int .i64 (0))), (.sc (.int .i64 (0))), (.sc (.string ⟨#[]⟩)), (.sl true .full 0 []), (.sl true .full 0 [])]⟩,
    ⟨none, none, .store 22 (.t 1) (.t 4)⟩])
  (.seq (.ops [⟨(some 5), none, .build [(.sc (.int .i64 (0))), (.sc (.int .i64 (0)))] [((1, 1), (.c (.sc (.int .i64 (4)))))]⟩,
    ⟨(some 6), none, .build [(.sc (.int .i64 (0))), (.sc (.int .i64 (0))), (.sc (.int .i64 (0))), (.sc (.int .i64 (0))), (.sc (.int .i64 (0))), (.sl true .full 0 []), (.sl true .full 0 []), (.sc (.int .i64 (0))), (.sc (.int .i64 (0))), (.sc (.int .i64 (0))), (.sl true .full 0 []), (.sc (.int .i64 (0))), (.sc (.int .i64 (0)))] [((0, 2), (.t 5)), ((2, 1), (.c (.sc (.int .i64 (3)))))]⟩,
    ⟨(some 7), none, .buildSl 13 [(.t 6)]⟩,
    ⟨(some 8), none, .build [(.sl true .full 0 []), (.sl true .full 0 [])] [((0, 1), (.t 7))]⟩,
    ⟨(some 9), none, .buildSl 2 [(.t 8)]⟩,
    ⟨(some 10), none, .build [(.sl true .full 0 []), (.sl true .full 0 [])] [((1, 1), (.t 9))]⟩,
    ⟨(some 11), none, .buildSl 2 [(.t 10)]⟩,
    ⟨(some 12), none, .faddr 21 (.t 1)⟩,
    ⟨none, none, .store 1 (.t 12) (.t 11)⟩])
  (.seq (.ops [⟨(some 13), none, .build [(.sc (.int .i64 (0))), (.sc (.int .i64 (0)))] [((1, 1), (.c (.sc (.int .i64 (1)))))]⟩,
    ⟨(some 14), none, .build [(.sc (.int .i64 (0))), (.sc (.int .i64 (0)))] [((1, 1), (.c (.sc (.int .i64 (2)))))]⟩,
    ⟨(some 15), none, .build [(.sc (.int .i64 (0))), (.sc (.int .i64 (0))), (.sc (.int .i64 (0)))] [((0, 2), (.t 14)), ((2, 1), (.c (.sc (.int .i64 (1)))))]⟩,
    ⟨(some 16), none, .buildM 3 [(.t 15)]⟩,
    ⟨(some 17), none, .build [(.sc (.int .i64 (0))), (.sc (.int .i64 (0))), (.sc (.string ⟨#[]⟩)), (.sc (.int .i64 (0))), (.sc (.int .i64 (0))), (.sl true .full 0 [])] [((0, 2), (.t 13)), ((5, 1), (.t 16))]⟩,
    ⟨(some 18), none, .buildSl 6 [(.t 17)]⟩,
    ⟨(some 19), none, .load (some 22) (.t 1)⟩,
    ⟨(some 20), none, .buildSl 22 [(.t 19)]⟩,
    ⟨(some 21), none, .build [(.sc (.int .i64 (0))), (.sc (.int .i64 (0)))] [((1, 1), (.c (.sc (.int .i64 (4)))))]⟩,
    ⟨(some 22), none, .buildSl 2 [(.t 21)]⟩,
    ⟨(some 23), none, .build [(.sc (.string ⟨#[]⟩)), (.sc (.bool false)), (.sl true .full 0 []), (.sl true .full 0 []), (.sl true .full 0 []), (.sl true .full 0 [])] [((2, 1), (.t 18)), ((3, 1), (.t 20)), ((5, 1), (.t 22))]⟩,
    ⟨none, none, .store 6 (.t 0) (.t 23)⟩])
  (.ret)))),
  [.c 0 (some 6)]⟩
theorem ok9 : EntryOk Tryz.prog 9 af9 := ⟨Tryz.f9, _, Tryz.func9, by decide, rfl, by kernel_rfl, by kernel_rfl, rfl⟩
/-- hemiola/check.within -/
noncomputable def af14 : AF := ⟨15, .seq (.ops [⟨(some 6), none, .move (.c (.sc (.bool false)))⟩])
  (.seq (.ops [⟨(some 7), none, .move (.t 0)⟩,
    ⟨(some 8), none, .move (.t 1)⟩,
    ⟨(some 9), none, .bin .geq (.t 7) (.t 8)⟩,
    ⟨(some 10), none, .move (.t 9)⟩,
    ⟨(some 11), (some (10, true)), .move (.t 0)⟩,
    ⟨(some 12), (some (10, true)), .move (.t 2)⟩,
    ⟨(some 13), (some (10, true)), .bin .leq (.t 11) (.t 12)⟩,
    ⟨(some 14), none, .pick (.t 10) (.t 13) (.c (.sc (.bool false)))⟩,
    ⟨(some 6), none, .move (.t 14)⟩])
  (.ret)),
  [.t 6]⟩
theorem ok14 : EntryOk Tryz.prog 14 af14 := ⟨Tryz.f14, _, Tryz.func14, by decide, rfl, by kernel_rfl, by kernel_rfl, rfl⟩
/-- (*hemiola/check.checker).limits -/
noncomputable def af18 : AF := ⟨159, .seq (.seq (.ops [⟨(some 11), none, .move (.t 0)⟩,
    ⟨(some 12), none, .nilCheck (.t 11)⟩,
    ⟨(some 13), none, .faddr 0 (.t 12)⟩,
    ⟨(some 14), none, .faddr 2 (.t 13)⟩,
    ⟨(some 15), none, .load none (.t 14)⟩,
    ⟨(some 16), none, .len (.t 15)⟩,
    ⟨(some 17), none, .move (.c (.sc (.int .i64 (0))))⟩])
  (.block 0 (.loop (.seq (.ops [⟨(some 18), none, .bin .lss (.t 17) (.t 16)⟩])
    (.seq (.cond (.t 18)
     (.skip)
     (.exit 0))
    (.seq (.block 1 (.seq (.ops [⟨(some 19), none, .iaddrS 6 (.t 15) (.t 17)⟩,
       ⟨(some 20), none, .load (some 6) (.t 19)⟩,
       ⟨(some 3), none, .alloc [(.sc (.int .i64 (0))), (.sc (.int .i64 (0))), (.sc (.string ⟨#[]⟩)), (.sc (.int .i64 (0))), (.sc (.int .i64 (0))), (.sl true .full 0 [])]⟩,
       ⟨none, none, .store 6 (.t 3) (.t 20)⟩])
     (.draw [⟨false, [0], ⟨(some 21), none, .move (.t 0)⟩⟩,
       ⟨false, [3], ⟨(some 22), none, .faddr 2 (.t 3)⟩⟩,
       ⟨false, [22], ⟨(some 23), none, .load none (.t 22)⟩⟩,
       ⟨false, [23], ⟨(some 24), none, .call (.c (.fn (.func 37) [] [])) [(.t 23)]⟩⟩,
       ⟨false, [24], ⟨(some 25), none, .un .not (.t 24)⟩⟩,
       ⟨false, [25], ⟨(some 26), none, .move (.t 25)⟩⟩,
       ⟨false, [3, 26], ⟨(some 27), (some (26, false)), .faddr 5 (.t 3)⟩⟩,
       ⟨false, [27, 26], ⟨(some 28), (some (26, false)), .load none (.t 27)⟩⟩,
       ⟨false, [28, 26], ⟨(some 29), (some (26, false)), .len (.t 28)⟩⟩,
       ⟨false, [29, 26], ⟨(some 30), (some (26, false)), .call (.c (.fn (.func 14) [] [])) [(.t 29), (.c (.sc (.int .i64 (1)))), (.c (.sc (.int .i64 (4))))]⟩⟩,
       ⟨false, [30, 26], ⟨(some 31), (some (26, false)), .un .not (.t 30)⟩⟩,
       ⟨false, [26, 31], ⟨(some 32), none, .pick (.t 26) (.c (.sc (.bool true))) (.t 31)⟩⟩,
       ⟨false, [32], ⟨(some 33), none, .move (.t 32)⟩⟩,
       ⟨false, [3, 33], ⟨(some 34), (some (33, false)), .faddr 3 (.t 3)⟩⟩,
       ⟨false, [34, 33], ⟨(some 35), (some (33, false)), .load (some 2) (.t 34)⟩⟩,
       ⟨false, [35, 33], ⟨(some 36), (some (33, false)), .call (.c (.fn (.func 38) [] [])) [(.t 35)]⟩⟩,
       ⟨false, [36, 33], ⟨(some 37), (some (33, false)), .bin .neq (.t 36) (.c (.sc (.int .i64 (0))))⟩⟩,
       ⟨false, [33, 37], ⟨(some 38), none, .pick (.t 33) (.c (.sc (.bool true))) (.t 37)⟩⟩,
       ⟨false, [3], ⟨(some 39), none, .faddr 0 (.t 3)⟩⟩,
       ⟨false, [39], ⟨(some 40), none, .load (some 2) (.t 39)⟩⟩]
       [⟨(some 41), none, .call (.c (.fn (.func 36) [] [])) [(.t 21), (.t 38), (.t 40)]⟩])))
    (.ops [⟨(some 42), none, .bin .add (.t 17) (.c (.sc (.int .i64 (1))))⟩,
      ⟨(some 17), none, .move (.t 42)⟩])))))))
  (.seq (.seq (.ops [⟨(some 43), none, .move (.t 0)⟩,
    ⟨(some 44), none, .nilCheck (.t 43)⟩,
    ⟨(some 45), none, .faddr 0 (.t 44)⟩,
    ⟨(some 46), none, .faddr 3 (.t 45)⟩,
    ⟨(some 47), none, .load none (.t 46)⟩,
    ⟨(some 48), none, .len (.t 47)⟩,
    ⟨(some 49), none, .move (.c (.sc (.int .i64 (0))))⟩])
  (.block 2 (.loop (.seq (.ops [⟨(some 50), none, .bin .lss (.t 49) (.t 48)⟩])
    (.seq (.cond (.t 50)
     (.skip)
     (.exit 2))
    (.seq (.block 3 (.seq (.ops [⟨(some 51), none, .iaddrS 22 (.t 47) (.t 49)⟩,
       ⟨(some 52), none, .load (some 22) (.t 51)⟩,
       ⟨(some 5), none, .alloc [(.sc (.int .i64 (0))), (.sc (.int .i64 (0))), (.sc (.int .i64 (0))), (.sc (.int .i64 (0))), (.sc (.int .i64 (0))), (.sc (.int .i64 (0))), (.sc (.int .i64 (0))), (.sc (.int .i64 (0))), (.sc (.int .i64 (0))), (.sc (.int .i64 (0))), (.sc (.int .i64 (0))), (.sc (.int .i64 (0))), (.sc (.bool false)), (.sc (.int .i64 (0))), (.sc (.int .i64 (0))), (.sc (.int .i64 (0))), (.sc (.int .i64 (0))), (.sc (.int .i64 (0))), (.sc (.int .i64 (0))), (.sc (.string ⟨#[]⟩)), (.sl true .full 0 []), (.sl true .full 0 [])]⟩,
       ⟨none, none, .store 22 (.t 5) (.t 52)⟩])
     (.seq (.ops [⟨(some 53), none, .faddr 19 (.t 5)⟩,
       ⟨(some 54), none, .load none (.t 53)⟩,
       ⟨(some 55), none, .call (.c (.fn (.func 37) [] [])) [(.t 54)]⟩,
       ⟨(some 56), none, .un .not (.t 55)⟩,
       ⟨(some 57), none, .move (.t 56)⟩,
       ⟨(some 58), (some (57, false)), .faddr 20 (.t 5)⟩,
       ⟨(some 59), (some (57, false)), .load none (.t 58)⟩,
       ⟨(some 60), (some (57, false)), .len (.t 59)⟩,
       ⟨(some 61), (some (57, false)), .bin .gtr (.t 60) (.c (.sc (.int .i64 (64))))⟩,
       ⟨(some 62), none, .pick (.t 57) (.c (.sc (.bool true))) (.t 61)⟩,
       ⟨(some 6), none, .move (.t 62)⟩])
     (.seq (.seq (.ops [⟨(some 63), none, .faddr 21 (.t 5)⟩,
       ⟨(some 64), none, .load none (.t 63)⟩,
       ⟨(some 65), none, .len (.t 64)⟩,
       ⟨(some 66), none, .move (.c (.sc (.int .i64 (0))))⟩])
     (.block 4 (.loop (.seq (.ops [⟨(some 67), none, .bin .lss (.t 66) (.t 65)⟩])
       (.seq (.cond (.t 67)
        (.skip)
        (.exit 4))
       (.seq (.block 5 (.seq (.ops [⟨(some 68), none, .iaddrS 2 (.t 64) (.t 66)⟩,
          ⟨(some 69), none, .load (some 2) (.t 68)⟩,
          ⟨(some 8), none, .alloc [(.sl true .full 0 []), (.sl true .full 0 [])]⟩,
          ⟨none, none, .store 2 (.t 8) (.t 69)⟩])
        (.seq (.ops [⟨(some 70), none, .move (.t 6)⟩,
          ⟨(some 71), none, .move (.t 70)⟩,
          ⟨(some 72), (some (71, false)), .faddr 0 (.t 8)⟩,
          ⟨(some 73), (some (71, false)), .load none (.t 72)⟩,
          ⟨(some 74), (some (71, false)), .len (.t 73)⟩,
          ⟨(some 75), (some (71, false)), .bin .gtr (.t 74) (.c (.sc (.int .i64 (64))))⟩,
          ⟨(some 76), none, .pick (.t 71) (.c (.sc (.bool true))) (.t 75)⟩,
          ⟨(some 77), none, .move (.t 76)⟩,
          ⟨(some 78), (some (77, false)), .faddr 1 (.t 8)⟩,
          ⟨(some 79), (some (77, false)), .load none (.t 78)⟩,
          ⟨(some 80), (some (77, false)), .len (.t 79)⟩,
          ⟨(some 81), (some (77, false)), .bin .gtr (.t 80) (.c (.sc (.int .i64 (2))))⟩,
          ⟨(some 82), none, .pick (.t 77) (.c (.sc (.bool true))) (.t 81)⟩,
          ⟨(some 6), none, .move (.t 82)⟩])
        (.seq (.ops [⟨(some 83), none, .faddr 1 (.t 8)⟩,
          ⟨(some 84), none, .load none (.t 83)⟩,
          ⟨(some 85), none, .len (.t 84)⟩,
          ⟨(some 86), none, .move (.c (.sc (.int .i64 (0))))⟩])
        (.block 6 (.loop (.seq (.ops [⟨(some 87), none, .bin .lss (.t 86) (.t 85)⟩])
          (.seq (.cond (.t 87)
           (.skip)
           (.exit 6))
          (.seq (.block 7 (.seq (.ops [⟨(some 88), none, .iaddrS 2 (.t 84) (.t 86)⟩,
             ⟨(some 89), none, .load (some 2) (.t 88)⟩,
             ⟨(some 10), none, .alloc [(.sl true .full 0 []), (.sl true .full 0 [])]⟩,
             ⟨none, none, .store 2 (.t 10) (.t 89)⟩])
           (.ops [⟨(some 90), none, .move (.t 6)⟩,
             ⟨(some 91), none, .move (.t 90)⟩,
             ⟨(some 92), (some (91, false)), .faddr 0 (.t 10)⟩,
             ⟨(some 93), (some (91, false)), .load none (.t 92)⟩,
             ⟨(some 94), (some (91, false)), .len (.t 93)⟩,
             ⟨(some 95), (some (91, false)), .bin .gtr (.t 94) (.c (.sc (.int .i64 (128))))⟩,
             ⟨(some 96), none, .pick (.t 91) (.c (.sc (.bool true))) (.t 95)⟩,
             ⟨(some 97), none, .move (.t 96)⟩,
             ⟨(some 98), (some (97, false)), .faddr 1 (.t 10)⟩,
             ⟨(some 99), (some (97, false)), .load none (.t 98)⟩,
             ⟨(some 100), (some (97, false)), .len (.t 99)⟩,
             ⟨(some 101), (some (97, false)), .bin .gtr (.t 100) (.c (.sc (.int .i64 (16))))⟩,
             ⟨(some 102), none, .pick (.t 97) (.c (.sc (.bool true))) (.t 101)⟩,
             ⟨(some 6), none, .move (.t 102)⟩])))
          (.ops [⟨(some 103), none, .bin .add (.t 86) (.c (.sc (.int .i64 (1))))⟩,
            ⟨(some 86), none, .move (.t 103)⟩]))))))))))
       (.ops [⟨(some 104), none, .bin .add (.t 66) (.c (.sc (.int .i64 (1))))⟩,
         ⟨(some 66), none, .move (.t 104)⟩])))))))
     (.ops [⟨(some 105), none, .move (.t 0)⟩,
       ⟨(some 106), none, .move (.t 6)⟩,
       ⟨(some 107), none, .faddr 0 (.t 5)⟩,
       ⟨(some 108), none, .load (some 2) (.t 107)⟩,
       ⟨(some 109), none, .call (.c (.fn (.func 36) [] [])) [(.t 105), (.t 106), (.t 108)]⟩])))))
    (.ops [⟨(some 110), none, .bin .add (.t 49) (.c (.sc (.int .i64 (1))))⟩,
      ⟨(some 49), none, .move (.t 110)⟩])))))))
  (.ops [⟨(some 111), none, .move (.t 0)⟩,
    ⟨(some 112), none, .move (.t 0)⟩,
    ⟨(some 113), none, .nilCheck (.t 112)⟩,
    ⟨(some 114), none, .faddr 0 (.t 113)⟩,
    ⟨(some 115), none, .faddr 0 (.t 114)⟩,
    ⟨(some 116), none, .load none (.t 115)⟩,
    ⟨(some 117), none, .call (.c (.fn (.func 37) [] [])) [(.t 116)]⟩,
    ⟨(some 118), none, .un .not (.t 117)⟩,
    ⟨(some 119), none, .move (.t 118)⟩,
    ⟨(some 120), (some (119, false)), .move (.t 0)⟩,
    ⟨(some 121), (some (119, false)), .nilCheck (.t 120)⟩,
    ⟨(some 122), (some (119, false)), .faddr 0 (.t 121)⟩,
    ⟨(some 123), (some (119, false)), .faddr 2 (.t 122)⟩,
    ⟨(some 124), (some (119, false)), .load none (.t 123)⟩,
    ⟨(some 125), (some (119, false)), .len (.t 124)⟩,
    ⟨(some 126), (some (119, false)), .call (.c (.fn (.func 14) [] [])) [(.t 125), (.c (.sc (.int .i64 (1)))), (.c (.sc (.int .i64 (32))))]⟩,
    ⟨(some 127), (some (119, false)), .un .not (.t 126)⟩,
    ⟨(some 128), none, .pick (.t 119) (.c (.sc (.bool true))) (.t 127)⟩,
    ⟨(some 129), none, .move (.t 128)⟩,
    ⟨(some 130), (some (129, false)), .move (.t 0)⟩,
    ⟨(some 131), (some (129, false)), .nilCheck (.t 130)⟩,
    ⟨(some 132), (some (129, false)), .faddr 0 (.t 131)⟩,
    ⟨(some 133), (some (129, false)), .faddr 3 (.t 132)⟩,
    ⟨(some 134), (some (129, false)), .load none (.t 133)⟩,
    ⟨(some 135), (some (129, false)), .len (.t 134)⟩,
    ⟨(some 136), (some (129, false)), .call (.c (.fn (.func 14) [] [])) [(.t 135), (.c (.sc (.int .i64 (1)))), (.c (.sc (.int .i64 (1024))))]⟩,
    ⟨(some 137), (some (129, false)), .un .not (.t 136)⟩,
    ⟨(some 138), none, .pick (.t 129) (.c (.sc (.bool true))) (.t 137)⟩,
    ⟨(some 139), none, .move (.t 138)⟩,
    ⟨(some 140), (some (139, false)), .move (.t 0)⟩,
    ⟨(some 141), (some (139, false)), .nilCheck (.t 140)⟩,
    ⟨(some 142), (some (139, false)), .faddr 0 (.t 141)⟩,
    ⟨(some 143), (some (139, false)), .faddr 4 (.t 142)⟩,
    ⟨(some 144), (some (139, false)), .load none (.t 143)⟩,
    ⟨(some 145), (some (139, false)), .len (.t 144)⟩,
    ⟨(some 146), (some (139, false)), .bin .gtr (.t 145) (.c (.sc (.int .i64 (4096))))⟩,
    ⟨(some 147), none, .pick (.t 139) (.c (.sc (.bool true))) (.t 146)⟩,
    ⟨(some 148), none, .move (.t 147)⟩,
    ⟨(some 149), (some (148, false)), .move (.t 0)⟩,
    ⟨(some 150), (some (148, false)), .nilCheck (.t 149)⟩,
    ⟨(some 151), (some (148, false)), .faddr 0 (.t 150)⟩,
    ⟨(some 152), (some (148, false)), .faddr 5 (.t 151)⟩,
    ⟨(some 153), (some (148, false)), .load none (.t 152)⟩,
    ⟨(some 154), (some (148, false)), .len (.t 153)⟩,
    ⟨(some 155), (some (148, false)), .bin .gtr (.t 154) (.c (.sc (.int .i64 (100))))⟩,
    ⟨(some 156), none, .pick (.t 148) (.c (.sc (.bool true))) (.t 155)⟩,
    ⟨(some 157), none, .build [(.sc (.int .i64 (0))), (.sc (.int .i64 (0)))] []⟩,
    ⟨(some 158), none, .call (.c (.fn (.func 36) [] [])) [(.t 111), (.t 156), (.t 157)]⟩])),
  []⟩
theorem ok18 : EntryOk Tryz.prog 18 af18 := ⟨Tryz.f18, _, Tryz.func18, by decide, rfl, by kernel_rfl, by kernel_rfl, rfl⟩
/-- (*hemiola/check.checker).metres -/
noncomputable def af22 : AF := ⟨5, .seq (.ops [⟨(some 1), none, .box (.t 0)⟩])
  (.ops [⟨(some 2), none, .load none (.t 1)⟩,
    ⟨(some 3), none, .mkFn (.func 48) [] [(.t 1)]⟩,
    ⟨(some 4), none, .call (.c (.fn (.func 43) [] [])) [(.t 2), (.t 3)]⟩]),
  []⟩
theorem ok22 : EntryOk Tryz.prog 22 af22 := ⟨Tryz.f22, _, Tryz.func22, by decide, rfl, by kernel_rfl, by kernel_rfl, rfl⟩
/-- (*hemiola/check.checker).pitches -/
noncomputable def af26 : AF := ⟨5, .seq (.ops [⟨(some 1), none, .box (.t 0)⟩])
  (.ops [⟨(some 2), none, .load none (.t 1)⟩,
    ⟨(some 3), none, .mkFn (.func 56) [] [(.t 1)]⟩,
    ⟨(some 4), none, .call (.c (.fn (.func 53) [] [])) [(.t 2), (.t 3)]⟩]),
  []⟩
theorem ok26 : EntryOk Tryz.prog 26 af26 := ⟨Tryz.f26, _, Tryz.func26, by decide, rfl, by kernel_rfl, by kernel_rfl, rfl⟩
/-- (*hemiola/check.checker).nesting -/
noncomputable def af30 : AF := ⟨62, .seq (.ops [⟨(some 9), none, .move (.t 0)⟩,
    ⟨(some 10), none, .call (.c (.fn (.func 71) [] [])) [(.t 9)]⟩,
    ⟨(some 8), none, .move (.t 10)⟩,
    ⟨(some 11), none, .extract 0 (.t 8)⟩,
    ⟨(some 12), none, .extract 1 (.t 8)⟩,
    ⟨(some 2), none, .move (.t 11)⟩,
    ⟨(some 3), none, .move (.t 12)⟩])
  (.seq (.ops [⟨(some 13), none, .move (.t 0)⟩,
    ⟨(some 14), none, .nilCheck (.t 13)⟩,
    ⟨(some 15), none, .faddr 0 (.t 14)⟩,
    ⟨(some 16), none, .faddr 4 (.t 15)⟩,
    ⟨(some 17), none, .load none (.t 16)⟩,
    ⟨(some 18), none, .len (.t 17)⟩,
    ⟨(some 19), none, .move (.c (.sc (.int .i64 (0))))⟩])
  (.block 0 (.loop (.seq (.ops [⟨(some 20), none, .bin .lss (.t 19) (.t 18)⟩])
    (.seq (.cond (.t 20)
     (.skip)
     (.exit 0))
    (.seq (.block 1 (.seq (.ops [⟨(some 21), none, .move (.t 19)⟩,
       ⟨(some 22), none, .iaddrS 7 (.t 17) (.t 19)⟩,
       ⟨(some 23), none, .load (some 7) (.t 22)⟩,
       ⟨(some 5), none, .alloc [(.sc (.int .i64 (0))), (.sc (.int .i64 (0))), (.sc (.int .i64 (0))), (.sc (.int .i64 (0))), (.sc (.int .i64 (0))), (.sc (.int .i64 (0))), (.sc (.int .i64 (0)))]⟩,
       ⟨(some 4), none, .move (.t 21)⟩,
       ⟨none, none, .store 7 (.t 5) (.t 23)⟩])
     (.seq (.ops [⟨(some 6), none, .move (.c (.sc (.bool false)))⟩])
     (.seq (.seq (.ops [⟨(some 7), none, .move (.c (.sc (.int .i64 (0))))⟩])
     (.block 2 (.loop (.seq (.seq (.ops [⟨(some 24), none, .move (.t 7)⟩,
         ⟨(some 25), none, .move (.t 4)⟩,
         ⟨(some 26), none, .bin .lss (.t 24) (.t 25)⟩,
         ⟨(some 27), none, .move (.t 26)⟩,
         ⟨(some 28), (some (27, true)), .move (.t 3)⟩,
         ⟨(some 29), (some (27, true)), .move (.t 4)⟩,
         ⟨(some 30), (some (27, true)), .iaddrS 1 (.t 28) (.t 29)⟩,
         ⟨(some 31), (some (27, true)), .load none (.t 30)⟩,
         ⟨(some 32), (some (27, true)), .un .not (.t 31)⟩,
         ⟨(some 33), none, .pick (.t 27) (.t 32) (.c (.sc (.bool false)))⟩,
         ⟨(some 34), none, .move (.t 33)⟩,
         ⟨(some 35), (some (34, true)), .move (.t 6)⟩,
         ⟨(some 36), (some (34, true)), .un .not (.t 35)⟩,
         ⟨(some 37), none, .pick (.t 34) (.t 36) (.c (.sc (.bool false)))⟩])
       (.cond (.t 37)
        (.skip)
        (.exit 2)))
       (.seq (.block 3 (.draw [⟨true, [3], ⟨(some 40), none, .move (.t 3)⟩⟩,
          ⟨true, [7], ⟨(some 41), none, .move (.t 7)⟩⟩,
          ⟨true, [40, 41], ⟨(some 42), none, .iaddrS 1 (.t 40) (.t 41)⟩⟩,
          ⟨true, [42], ⟨(some 43), none, .load none (.t 42)⟩⟩,
          ⟨true, [43], ⟨(some 44), none, .un .not (.t 43)⟩⟩,
          ⟨true, [44], ⟨(some 45), none, .move (.t 44)⟩⟩,
          ⟨false, [2, 45], ⟨(some 46), (some (45, true)), .move (.t 2)⟩⟩,
          ⟨false, [7, 45], ⟨(some 47), (some (45, true)), .move (.t 7)⟩⟩,
          ⟨false, [46, 47, 45], ⟨(some 48), (some (45, true)), .iaddrS 9 (.t 46) (.t 47)⟩⟩,
          ⟨false, [48, 45], ⟨(some 49), (some (45, true)), .load (some 9) (.t 48)⟩⟩,
          ⟨false, [2, 45], ⟨(some 50), (some (45, true)), .move (.t 2)⟩⟩,
          ⟨false, [4, 45], ⟨(some 51), (some (45, true)), .move (.t 4)⟩⟩,
          ⟨false, [50, 51, 45], ⟨(some 52), (some (45, true)), .iaddrS 9 (.t 50) (.t 51)⟩⟩,
          ⟨false, [52, 45], ⟨(some 53), (some (45, true)), .load (some 9) (.t 52)⟩⟩]
          [⟨(some 54), (some (45, true)), .call (.c (.fn (.func 72) [] [])) [(.t 49), (.t 53)]⟩,
          ⟨(some 55), none, .pick (.t 45) (.t 54) (.c (.sc (.bool false)))⟩,
          ⟨(some 6), none, .move (.t 55)⟩]))
       (.ops [⟨(some 38), none, .move (.t 7)⟩,
         ⟨(some 39), none, .bin .add (.t 38) (.c (.sc (.int .i64 (1))))⟩,
         ⟨(some 7), none, .move (.t 39)⟩]))))))
     (.ops [⟨(some 56), none, .move (.t 0)⟩,
       ⟨(some 57), none, .move (.t 6)⟩,
       ⟨(some 58), none, .faddr 0 (.t 5)⟩,
       ⟨(some 59), none, .load (some 2) (.t 58)⟩,
       ⟨(some 60), none, .call (.c (.fn (.func 36) [] [])) [(.t 56), (.t 57), (.t 59)]⟩])))))
    (.ops [⟨(some 61), none, .bin .add (.t 19) (.c (.sc (.int .i64 (1))))⟩,
      ⟨(some 19), none, .move (.t 61)⟩]))))))),
  []⟩
theorem ok30 : EntryOk Tryz.prog 30 af30 := ⟨Tryz.f30, _, Tryz.func30, by decide, rfl, by kernel_rfl, by kernel_rfl, rfl⟩
/-- (*hemiola/check.checker).margins -/
noncomputable def af34 : AF := ⟨5, .seq (.ops [⟨(some 1), none, .box (.t 0)⟩])
  (.ops [⟨(some 2), none, .load none (.t 1)⟩,
    ⟨(some 3), none, .mkFn (.func 81) [] [(.t 1)]⟩,
    ⟨(some 4), none, .call (.c (.fn (.func 53) [] [])) [(.t 2), (.t 3)]⟩]),
  []⟩
theorem ok34 : EntryOk Tryz.prog 34 af34 := ⟨Tryz.f34, _, Tryz.func34, by decide, rfl, by kernel_rfl, by kernel_rfl, rfl⟩
/-- hemiola/interval.Check -/
noncomputable def af38 : AF := ⟨21, .seq (.ops [⟨(some 1), none, .box (.t 0)⟩,
    ⟨(some 2), none, .move (.c (.sc (.int .i64 (0))))⟩])
  (.seq (.seq (.ops [⟨(some 3), none, .faddr 0 (.t 1)⟩,
    ⟨(some 4), none, .load none (.t 3)⟩,
    ⟨(some 5), none, .bin .lss (.t 4) (.c (.sc (.int .i64 (-77))))⟩,
    ⟨(some 6), none, .move (.t 5)⟩,
    ⟨(some 7), (some (6, false)), .faddr 0 (.t 1)⟩,
    ⟨(some 8), (some (6, false)), .load none (.t 7)⟩,
    ⟨(some 9), (some (6, false)), .bin .gtr (.t 8) (.c (.sc (.int .i64 (77))))⟩,
    ⟨(some 10), none, .pick (.t 6) (.c (.sc (.bool true))) (.t 9)⟩,
    ⟨(some 11), none, .move (.t 10)⟩,
    ⟨(some 12), (some (11, false)), .faddr 1 (.t 1)⟩,
    ⟨(some 13), (some (11, false)), .load none (.t 12)⟩,
    ⟨(some 14), (some (11, false)), .bin .lss (.t 13) (.c (.sc (.int .i64 (-140))))⟩,
    ⟨(some 15), none, .pick (.t 11) (.c (.sc (.bool true))) (.t 14)⟩,
    ⟨(some 16), none, .move (.t 15)⟩,
    ⟨(some 17), (some (16, false)), .faddr 1 (.t 1)⟩,
    ⟨(some 18), (some (16, false)), .load none (.t 17)⟩,
    ⟨(some 19), (some (16, false)), .bin .gtr (.t 18) (.c (.sc (.int .i64 (140))))⟩,
    ⟨(some 20), none, .pick (.t 16) (.c (.sc (.bool true))) (.t 19)⟩])
  (.cond (.t 20)
   (.seq (.ops [⟨(some 2), none, .move (.c (.sc (.int .i64 (2))))⟩])
   (.ret))
   (.skip)))
  (.seq (.ops [⟨(some 2), none, .move (.c (.sc (.int .i64 (0))))⟩])
  (.ret))),
  [.t 2]⟩
theorem ok38 : EntryOk Tryz.prog 38 af38 := ⟨Tryz.f38, _, Tryz.func38, by decide, rfl, by kernel_rfl, by kernel_rfl, rfl⟩
/-- hemiola/score.Staves -/
noncomputable def af42 : AF := ⟨20, .seq (.ops [⟨(some 1), none, .box (.t 0)⟩,
    ⟨(some 2), none, .move (.c (.sc (.int .i64 (0))))⟩])
  (.seq (.ops [⟨(some 3), none, .move (.c (.sc (.int .i64 (0))))⟩])
  (.seq (.seq (.ops [⟨(some 6), none, .faddr 2 (.t 1)⟩,
    ⟨(some 7), none, .load none (.t 6)⟩,
    ⟨(some 8), none, .len (.t 7)⟩,
    ⟨(some 9), none, .move (.c (.sc (.int .i64 (0))))⟩])
  (.block 0 (.loop (.seq (.ops [⟨(some 10), none, .bin .lss (.t 9) (.t 8)⟩])
    (.seq (.cond (.t 10)
     (.skip)
     (.exit 0))
    (.seq (.block 1 (.seq (.ops [⟨(some 11), none, .iaddrS 6 (.t 7) (.t 9)⟩,
       ⟨(some 12), none, .load (some 6) (.t 11)⟩,
       ⟨(some 5), none, .alloc [(.sc (.int .i64 (0))), (.sc (.int .i64 (0))), (.sc (.string ⟨#[]⟩)), (.sc (.int .i64 (0))), (.sc (.int .i64 (0))), (.sl true .full 0 [])]⟩,
       ⟨none, none, .store 6 (.t 5) (.t 12)⟩])
     (.ops [⟨(some 13), none, .move (.t 3)⟩,
       ⟨(some 14), none, .faddr 5 (.t 5)⟩,
       ⟨(some 15), none, .load none (.t 14)⟩,
       ⟨(some 16), none, .len (.t 15)⟩,
       ⟨(some 17), none, .bin .add (.t 13) (.t 16)⟩,
       ⟨(some 3), none, .move (.t 17)⟩])))
    (.ops [⟨(some 18), none, .bin .add (.t 9) (.c (.sc (.int .i64 (1))))⟩,
      ⟨(some 9), none, .move (.t 18)⟩])))))))
  (.seq (.ops [⟨(some 19), none, .move (.t 3)⟩,
    ⟨(some 2), none, .move (.t 19)⟩])
  (.ret)))),
  [.t 2]⟩
theorem ok42 : EntryOk Tryz.prog 42 af42 := ⟨Tryz.f42, _, Tryz.func42, by decide, rfl, by kernel_rfl, by kernel_rfl, rfl⟩
/-- (*hemiola/check.checker).clefs$1 -/
noncomputable def af46 : AF := ⟨70, .seq (.ops [⟨(some 3), none, .box (.t 1)⟩,
    ⟨(some 4), none, .move (.c (.sc (.bool false)))⟩])
  (.seq (.ops [⟨(some 13), none, .load (some 22) (.t 3)⟩,
    ⟨(some 14), none, .call (.c (.fn (.func 47) [] [])) [(.t 13)]⟩,
    ⟨(some 12), none, .move (.t 14)⟩,
    ⟨(some 15), none, .extract 0 (.t 12)⟩,
    ⟨(some 16), none, .extract 1 (.t 12)⟩,
    ⟨(some 5), none, .move (.t 15)⟩,
    ⟨(some 6), none, .move (.t 16)⟩])
  (.seq (.ops [⟨(some 7), none, .move (.c (.sc (.bool false)))⟩])
  (.seq (.seq (.ops [⟨(some 17), none, .faddr 21 (.t 3)⟩,
    ⟨(some 18), none, .load none (.t 17)⟩,
    ⟨(some 19), none, .len (.t 18)⟩,
    ⟨(some 20), none, .move (.c (.sc (.int .i64 (0))))⟩])
  (.block 0 (.loop (.seq (.ops [⟨(some 21), none, .bin .lss (.t 20) (.t 19)⟩])
    (.seq (.cond (.t 21)
     (.skip)
     (.exit 0))
    (.seq (.block 1 (.seq (.ops [⟨(some 22), none, .iaddrS 2 (.t 18) (.t 20)⟩,
       ⟨(some 23), none, .load (some 2) (.t 22)⟩,
       ⟨(some 9), none, .alloc [(.sl true .full 0 []), (.sl true .full 0 [])]⟩,
       ⟨none, none, .store 2 (.t 9) (.t 23)⟩])
     (.seq (.ops [⟨(some 24), none, .faddr 0 (.t 9)⟩,
       ⟨(some 25), none, .load none (.t 24)⟩,
       ⟨(some 26), none, .len (.t 25)⟩,
       ⟨(some 27), none, .move (.c (.sc (.int .i64 (0))))⟩])
     (.block 2 (.loop (.seq (.ops [⟨(some 28), none, .bin .lss (.t 27) (.t 26)⟩])
       (.seq (.cond (.t 28)
        (.skip)
        (.exit 2))
       (.seq (.block 3 (.seq (.ops [⟨(some 29), none, .move (.t 27)⟩,
          ⟨(some 30), none, .iaddrS 2 (.t 25) (.t 27)⟩,
          ⟨(some 31), none, .load (some 2) (.t 30)⟩,
          ⟨(some 11), none, .alloc [(.sc (.int .i64 (0))), (.sc (.int .i64 (0)))]⟩,
          ⟨(some 10), none, .move (.t 29)⟩,
          ⟨none, none, .store 2 (.t 11) (.t 31)⟩])
        (.draw [⟨true, [7], ⟨(some 32), none, .move (.t 7)⟩⟩,
          ⟨true, [32], ⟨(some 33), none, .move (.t 32)⟩⟩,
          ⟨true, [11, 33], ⟨(some 34), (some (33, false)), .faddr 1 (.t 11)⟩⟩,
          ⟨true, [34, 33], ⟨(some 35), (some (33, false)), .load none (.t 34)⟩⟩,
          ⟨true, [35, 33], ⟨(some 36), (some (33, false)), .call (.c (.fn (.func 45) [] [])) [(.t 35)]⟩⟩,
          ⟨true, [36, 33], ⟨(some 37), (some (33, false)), .bin .neq (.t 36) (.c (.sc (.int .i64 (0))))⟩⟩,
          ⟨true, [33, 37], ⟨(some 38), none, .pick (.t 33) (.c (.sc (.bool true))) (.t 37)⟩⟩,
          ⟨true, [38], ⟨(some 39), none, .move (.t 38)⟩⟩,
          ⟨true, [11, 39], ⟨(some 40), (some (39, false)), .faddr 0 (.t 11)⟩⟩,
          ⟨true, [40, 39], ⟨(some 41), (some (39, false)), .load none (.t 40)⟩⟩,
          ⟨false, [5, 39], ⟨(some 42), (some (39, false)), .move (.t 5)⟩⟩,
          ⟨false, [42, 39], ⟨(some 43), (some (39, false)), .bin .sub (.t 42) (.c (.sc (.int .i64 (1))))⟩⟩,
          ⟨true, [41, 43, 39], ⟨(some 44), (some (39, false)), .call (.c (.fn (.func 14) [] [])) [(.t 41), (.c (.sc (.int .i64 (0)))), (.t 43)]⟩⟩,
          ⟨true, [44, 39], ⟨(some 45), (some (39, false)), .un .not (.t 44)⟩⟩,
          ⟨true, [39, 45], ⟨(some 46), none, .pick (.t 39) (.c (.sc (.bool true))) (.t 45)⟩⟩,
          ⟨true, [46], ⟨(some 47), none, .move (.t 46)⟩⟩,
          ⟨true, [10, 47], ⟨(some 48), (some (47, false)), .move (.t 10)⟩⟩,
          ⟨true, [48, 47], ⟨(some 49), (some (47, false)), .bin .gtr (.t 48) (.c (.sc (.int .i64 (0))))⟩⟩,
          ⟨true, [49, 47], ⟨(some 50), (some (47, false)), .move (.t 49)⟩⟩,
          ⟨false, [11, 50], ⟨(some 51), (some (50, true)), .faddr 0 (.t 11)⟩⟩,
          ⟨false, [51, 50], ⟨(some 52), (some (50, true)), .load none (.t 51)⟩⟩,
          ⟨false, [9, 50], ⟨(some 53), (some (50, true)), .faddr 0 (.t 9)⟩⟩,
          ⟨false, [53, 50], ⟨(some 54), (some (50, true)), .load none (.t 53)⟩⟩,
          ⟨false, [10, 50], ⟨(some 55), (some (50, true)), .move (.t 10)⟩⟩,
          ⟨false, [55, 50], ⟨(some 56), (some (50, true)), .bin .sub (.t 55) (.c (.sc (.int .i64 (1))))⟩⟩,
          ⟨false, [54, 56, 50], ⟨(some 57), (some (50, true)), .iaddrS 2 (.t 54) (.t 56)⟩⟩,
          ⟨false, [57, 50], ⟨(some 58), (some (50, true)), .faddr 0 (.t 57)⟩⟩,
          ⟨false, [58, 50], ⟨(some 59), (some (50, true)), .load none (.t 58)⟩⟩]
          [⟨(some 60), (some (50, true)), .bin .leq (.t 52) (.t 59)⟩,
          ⟨(some 61), (some (47, false)), .pick (.t 50) (.t 60) (.c (.sc (.bool false)))⟩,
          ⟨(some 62), none, .pick (.t 47) (.c (.sc (.bool true))) (.t 61)⟩,
          ⟨(some 7), none, .move (.t 62)⟩])))
       (.ops [⟨(some 63), none, .bin .add (.t 27) (.c (.sc (.int .i64 (1))))⟩,
         ⟨(some 27), none, .move (.t 63)⟩])))))))))
    (.ops [⟨(some 64), none, .bin .add (.t 20) (.c (.sc (.int .i64 (1))))⟩,
      ⟨(some 20), none, .move (.t 64)⟩])))))))
  (.seq (.ops [⟨(some 65), none, .move (.t 7)⟩,
    ⟨(some 66), none, .move (.t 65)⟩,
    ⟨(some 67), (some (66, true)), .move (.t 6)⟩,
    ⟨(some 68), (some (66, true)), .bin .eql (.t 67) (.c (.sc (.int .i64 (0))))⟩,
    ⟨(some 69), none, .pick (.t 66) (.t 68) (.c (.sc (.bool false)))⟩,
    ⟨(some 4), none, .move (.t 69)⟩])
  (.ret))))),
  [.t 4]⟩
theorem ok46 : EntryOk Tryz.prog 46 af46 := ⟨Tryz.f46, _, Tryz.func46, by decide, rfl, by kernel_rfl, by kernel_rfl, rfl⟩
/-- hemiola/check.lacks -/
noncomputable def af51 : AF := ⟨9, .seq (.ops [⟨(some 2), none, .move (.c (.sc (.bool false)))⟩])
  (.seq (.ops [⟨(some 3), none, .move (.t 0)⟩,
    ⟨(some 4), none, .bin .eql (.t 3) (.c (.sc (.int .i64 (11))))⟩,
    ⟨(some 5), none, .move (.t 4)⟩,
    ⟨(some 6), (some (5, false)), .move (.t 0)⟩,
    ⟨(some 7), (some (5, false)), .bin .eql (.t 6) (.c (.sc (.int .i64 (20))))⟩,
    ⟨(some 8), none, .pick (.t 5) (.c (.sc (.bool true))) (.t 7)⟩,
    ⟨(some 2), none, .move (.t 8)⟩])
  (.ret)),
  [.t 2]⟩
theorem ok51 : EntryOk Tryz.prog 51 af51 := ⟨Tryz.f51, _, Tryz.func51, by decide, rfl, by kernel_rfl, by kernel_rfl, rfl⟩
/-- hemiola/event.Check -/
noncomputable def af55 : AF := ⟨70, .seq (.ops [⟨(some 1), none, .box (.t 0)⟩,
    ⟨(some 2), none, .move (.c (.sc (.int .i64 (0))))⟩])
  (.seq (.seq (.draw [⟨false, [1], ⟨(some 5), none, .faddr 0 (.t 1)⟩⟩,
    ⟨false, [5], ⟨(some 6), none, .faddr 0 (.t 5)⟩⟩,
    ⟨false, [6], ⟨(some 7), none, .load none (.t 6)⟩⟩,
    ⟨false, [7], ⟨(some 8), none, .call (.c (.fn (.func 101) [] [])) [(.t 7), (.c (.sc (.int .i64 (99))))]⟩⟩,
    ⟨false, [1], ⟨(some 9), none, .faddr 0 (.t 1)⟩⟩,
    ⟨false, [9], ⟨(some 10), none, .faddr 1 (.t 9)⟩⟩,
    ⟨false, [10], ⟨(some 11), none, .load none (.t 10)⟩⟩]
    [⟨(some 12), none, .call (.c (.fn (.func 101) [] [])) [(.t 11), (.c (.sc (.int .i64 (1073741824))))]⟩,
    ⟨(some 13), none, .buildSl 1 [(.t 8), (.t 12)]⟩,
    ⟨(some 14), none, .call (.c (.fn (.func 100) [] [])) [(.t 13)]⟩,
    ⟨(some 3), none, .move (.t 14)⟩])
  (.seq (.ops [⟨(some 15), none, .move (.t 3)⟩,
    ⟨(some 16), none, .bin .neq (.t 15) (.c (.sc (.int .i64 (0))))⟩])
  (.cond (.t 16)
   (.seq (.ops [⟨(some 17), none, .move (.t 3)⟩,
     ⟨(some 2), none, .move (.t 17)⟩])
   (.ret))
   (.skip))))
  (.seq (.seq (.ops [⟨(some 18), none, .faddr 2 (.t 1)⟩,
    ⟨(some 19), none, .load none (.t 18)⟩,
    ⟨(some 20), none, .call (.c (.fn (.func 102) [] [])) [(.t 19)]⟩,
    ⟨(some 21), none, .un .not (.t 20)⟩])
  (.cond (.t 21)
   (.seq (.ops [⟨(some 2), none, .move (.c (.sc (.int .i64 (11))))⟩])
   (.ret))
   (.skip)))
  (.seq (.seq (.draw [⟨false, [1], ⟨(some 22), none, .load (some 13) (.t 1)⟩⟩,
    ⟨false, [1], ⟨(some 23), none, .load (some 13) (.t 1)⟩⟩,
    ⟨false, [23], ⟨(some 24), none, .call (.c (.fn (.func 104) [] [])) [(.t 23)]⟩⟩]
    [⟨(some 25), none, .call (.c (.fn (.func 103) [] [])) [(.t 22), (.t 24)]⟩,
    ⟨(some 26), none, .un .not (.t 25)⟩])
  (.cond (.t 26)
   (.seq (.ops [⟨(some 2), none, .move (.c (.sc (.int .i64 (3))))⟩])
   (.ret))
   (.skip)))
  (.seq (.seq (.ops [⟨(some 27), none, .faddr 2 (.t 1)⟩,
    ⟨(some 28), none, .load none (.t 27)⟩,
    ⟨(some 29), none, .bin .neq (.t 28) (.c (.sc (.int .i64 (3))))⟩,
    ⟨(some 30), none, .move (.t 29)⟩,
    ⟨(some 31), (some (30, true)), .faddr 3 (.t 1)⟩,
    ⟨(some 32), (some (30, true)), .load (some 2) (.t 31)⟩,
    ⟨(some 33), (some (30, true)), .call (.c (.fn (.func 105) [] [])) [(.t 32)]⟩,
    ⟨(some 34), (some (30, true)), .bin .neq (.t 33) (.c (.sc (.int .i64 (0))))⟩,
    ⟨(some 35), none, .pick (.t 30) (.t 34) (.c (.sc (.bool false)))⟩])
  (.cond (.t 35)
   (.seq (.ops [⟨(some 2), none, .move (.c (.sc (.int .i64 (17))))⟩])
   (.ret))
   (.skip)))
  (.seq (.seq (.ops [⟨(some 36), none, .faddr 2 (.t 1)⟩,
    ⟨(some 37), none, .load none (.t 36)⟩,
    ⟨(some 38), none, .bin .eql (.t 37) (.c (.sc (.int .i64 (1))))⟩])
  (.cond (.t 38)
   (.seq (.draw [⟨false, [1], ⟨(some 39), none, .faddr 5 (.t 1)⟩⟩,
     ⟨false, [39], ⟨(some 40), none, .load none (.t 39)⟩⟩,
     ⟨false, [40], ⟨(some 41), none, .call (.c (.fn (.func 106) [] [])) [(.t 40)]⟩⟩,
     ⟨false, [1], ⟨(some 42), none, .faddr 6 (.t 1)⟩⟩,
     ⟨false, [42], ⟨(some 43), none, .load none (.t 42)⟩⟩,
     ⟨false, [43], ⟨(some 44), none, .call (.c (.fn (.func 107) [] [])) [(.t 43)]⟩⟩,
     ⟨false, [1], ⟨(some 45), none, .faddr 10 (.t 1)⟩⟩,
     ⟨false, [45], ⟨(some 46), none, .load none (.t 45)⟩⟩]
     [⟨(some 47), none, .call (.c (.fn (.func 108) [] [])) [(.t 46)]⟩,
     ⟨(some 48), none, .buildSl 1 [(.t 41), (.t 44), (.t 47)]⟩,
     ⟨(some 49), none, .call (.c (.fn (.func 100) [] [])) [(.t 48)]⟩,
     ⟨(some 4), none, .move (.t 49)⟩])
   (.seq (.ops [⟨(some 50), none, .move (.t 4)⟩,
     ⟨(some 51), none, .bin .neq (.t 50) (.c (.sc (.int .i64 (0))))⟩])
   (.cond (.t 51)
    (.seq (.ops [⟨(some 52), none, .move (.t 4)⟩,
      ⟨(some 2), none, .move (.t 52)⟩])
    (.ret))
    (.skip))))
   (.skip)))
  (.seq (.draw [⟨false, [1], ⟨(some 53), none, .faddr 7 (.t 1)⟩⟩,
    ⟨false, [53], ⟨(some 54), none, .load none (.t 53)⟩⟩,
    ⟨false, [54], ⟨(some 55), none, .call (.c (.fn (.func 101) [] [])) [(.t 54), (.c (.sc (.int .i64 (31))))]⟩⟩,
    ⟨false, [1], ⟨(some 56), none, .faddr 8 (.t 1)⟩⟩,
    ⟨false, [56], ⟨(some 57), none, .load none (.t 56)⟩⟩,
    ⟨false, [57], ⟨(some 58), none, .call (.c (.fn (.func 101) [] [])) [(.t 57), (.c (.sc (.int .i64 (4))))]⟩⟩,
    ⟨false, [1], ⟨(some 59), none, .faddr 9 (.t 1)⟩⟩,
    ⟨false, [59], ⟨(some 60), none, .load none (.t 59)⟩⟩,
    ⟨false, [60], ⟨(some 61), none, .call (.c (.fn (.func 101) [] [])) [(.t 60), (.c (.sc (.int .i64 (9))))]⟩⟩,
    ⟨false, [1], ⟨(some 62), none, .faddr 11 (.t 1)⟩⟩,
    ⟨false, [62], ⟨(some 63), none, .load none (.t 62)⟩⟩,
    ⟨false, [63], ⟨(some 64), none, .call (.c (.fn (.func 101) [] [])) [(.t 63), (.c (.sc (.int .i64 (2))))]⟩⟩,
    ⟨false, [1], ⟨(some 65), none, .faddr 12 (.t 1)⟩⟩,
    ⟨false, [65], ⟨(some 66), none, .load none (.t 65)⟩⟩]
    [⟨(some 67), none, .call (.c (.fn (.func 101) [] [])) [(.t 66), (.c (.sc (.int .i64 (2))))]⟩,
    ⟨(some 68), none, .buildSl 1 [(.t 55), (.t 58), (.t 61), (.t 64), (.t 67)]⟩,
    ⟨(some 69), none, .call (.c (.fn (.func 100) [] [])) [(.t 68)]⟩,
    ⟨(some 2), none, .move (.t 69)⟩])
  (.ret))))))),
  [.t 2]⟩
theorem ok55 : EntryOk Tryz.prog 55 af55 := ⟨Tryz.f55, _, Tryz.func55, by decide, rfl, by kernel_rfl, by kernel_rfl, rfl⟩
/-- slices.ContainsFunc[[]hemiola/api.Grace,hemiola/api.Grace] -/
noncomputable def af62 : AF := ⟨9, .seq (.ops [⟨(some 4), none, .move (.c (.sc (.bool false)))⟩])
  (.seq (.ops [⟨(some 5), none, .move (.t 0)⟩,
    ⟨(some 6), none, .move (.t 1)⟩,
    ⟨(some 7), none, .call (.c (.fn (.func 112) [] [])) [(.t 5), (.t 6)]⟩,
    ⟨(some 8), none, .bin .geq (.t 7) (.c (.sc (.int .i64 (0))))⟩,
    ⟨(some 4), none, .move (.t 8)⟩])
  (.ret)),
  [.t 4]⟩
theorem ok62 : EntryOk Tryz.prog 62 af62 := ⟨Tryz.f62, _, Tryz.func62, by decide, rfl, by kernel_rfl, by kernel_rfl, rfl⟩
/-- (*hemiola/check.checker).verse -/
noncomputable def af69 : AF := ⟨108, .seq (.ops [⟨(some 10), none, .alloc [(.sc (.string ⟨#[]⟩)), (.sc (.int .i64 (0)))]⟩])
  (.seq (.ops [⟨(some 11), none, .alloc [(.sc (.int .i64 (0))), (.sc (.int .i64 (0))), (.sc (.int .i64 (0))), (.sc (.int .i64 (0))), (.sc (.int .i64 (0))), (.sc (.int .i64 (0))), (.sc (.int .i64 (0)))]⟩])
  (.seq (.seq (.ops [⟨(some 18), none, .move (.t 0)⟩,
    ⟨(some 19), none, .nilCheck (.t 18)⟩,
    ⟨(some 20), none, .faddr 0 (.t 19)⟩,
    ⟨(some 21), none, .faddr 3 (.t 20)⟩,
    ⟨(some 22), none, .load none (.t 21)⟩,
    ⟨(some 23), none, .len (.t 22)⟩,
    ⟨(some 24), none, .move (.c (.sc (.int .i64 (0))))⟩])
  (.block 0 (.loop (.seq (.ops [⟨(some 25), none, .bin .lss (.t 24) (.t 23)⟩])
    (.seq (.cond (.t 25)
     (.skip)
     (.exit 0))
    (.seq (.block 1 (.seq (.ops [⟨(some 26), none, .move (.t 24)⟩,
       ⟨(some 27), none, .iaddrS 22 (.t 22) (.t 24)⟩,
       ⟨(some 28), none, .load (some 22) (.t 27)⟩,
       ⟨(some 13), none, .alloc [(.sc (.int .i64 (0))), (.sc (.int .i64 (0))), (.sc (.int .i64 (0))), (.sc (.int .i64 (0))), (.sc (.int .i64 (0))), (.sc (.int .i64 (0))), (.sc (.int .i64 (0))), (.sc (.int .i64 (0))), (.sc (.int .i64 (0))), (.sc (.int .i64 (0))), (.sc (.int .i64 (0))), (.sc (.int .i64 (0))), (.sc (.bool false)), (.sc (.int .i64 (0))), (.sc (.int .i64 (0))), (.sc (.int .i64 (0))), (.sc (.int .i64 (0))), (.sc (.int .i64 (0))), (.sc (.int .i64 (0))), (.sc (.string ⟨#[]⟩)), (.sl true .full 0 []), (.sl true .full 0 [])]⟩,
       ⟨(some 12), none, .move (.t 26)⟩,
       ⟨none, none, .store 22 (.t 13) (.t 28)⟩])
     (.seq (.seq (.ops [⟨(some 29), none, .move (.t 1)⟩,
       ⟨(some 30), none, .faddr 21 (.t 13)⟩,
       ⟨(some 31), none, .load none (.t 30)⟩,
       ⟨(some 32), none, .len (.t 31)⟩,
       ⟨(some 33), none, .bin .geq (.t 29) (.t 32)⟩,
       ⟨(some 34), none, .move (.t 33)⟩,
       ⟨(some 35), (some (34, false)), .move (.t 2)⟩,
       ⟨(some 36), (some (34, false)), .faddr 21 (.t 13)⟩,
       ⟨(some 37), (some (34, false)), .load none (.t 36)⟩,
       ⟨(some 38), (some (34, false)), .move (.t 1)⟩,
       ⟨(some 39), (some (34, false)), .iaddrS 2 (.t 37) (.t 38)⟩,
       ⟨(some 40), (some (34, false)), .faddr 1 (.t 39)⟩,
       ⟨(some 41), (some (34, false)), .load none (.t 40)⟩,
       ⟨(some 42), (some (34, false)), .len (.t 41)⟩,
       ⟨(some 43), (some (34, false)), .bin .geq (.t 35) (.t 42)⟩,
       ⟨(some 44), none, .pick (.t 34) (.c (.sc (.bool true))) (.t 43)⟩])
     (.cond (.t 44)
      (.exit 1)
      (.skip)))
     (.seq (.ops [⟨(some 45), none, .faddr 21 (.t 13)⟩,
       ⟨(some 46), none, .load none (.t 45)⟩,
       ⟨(some 47), none, .move (.t 1)⟩,
       ⟨(some 48), none, .iaddrS 2 (.t 46) (.t 47)⟩,
       ⟨(some 49), none, .faddr 1 (.t 48)⟩,
       ⟨(some 50), none, .load none (.t 49)⟩,
       ⟨(some 51), none, .move (.t 2)⟩,
       ⟨(some 52), none, .iaddrS 2 (.t 50) (.t 51)⟩,
       ⟨(some 53), none, .faddr 0 (.t 52)⟩,
       ⟨(some 54), none, .load none (.t 53)⟩,
       ⟨(some 55), none, .len (.t 54)⟩,
       ⟨(some 56), none, .move (.c (.sc (.int .i64 (0))))⟩])
     (.block 2 (.loop (.seq (.ops [⟨(some 57), none, .bin .lss (.t 56) (.t 55)⟩])
       (.seq (.cond (.t 57)
        (.skip)
        (.exit 2))
       (.seq (.block 3 (.seq (.ops [⟨(some 58), none, .move (.t 56)⟩,
          ⟨(some 59), none, .iaddrS 13 (.t 54) (.t 56)⟩,
          ⟨(some 60), none, .load (some 13) (.t 59)⟩,
          ⟨(some 15), none, .alloc [(.sc (.int .i64 (0))), (.sc (.int .i64 (0))), (.sc (.int .i64 (0))), (.sc (.int .i64 (0))), (.sc (.int .i64 (0))), (.sl true .full 0 []), (.sl true .full 0 []), (.sc (.int .i64 (0))), (.sc (.int .i64 (0))), (.sc (.int .i64 (0))), (.sl true .full 0 []), (.sc (.int .i64 (0))), (.sc (.int .i64 (0)))]⟩,
          ⟨(some 14), none, .move (.t 58)⟩,
          ⟨none, none, .store 13 (.t 15) (.t 60)⟩])
        (.seq (.seq (.ops [⟨(some 61), none, .load (some 13) (.t 15)⟩,
          ⟨(some 62), none, .move (.t 3)⟩,
          ⟨(some 63), none, .call (.c (.fn (.func 119) [] [])) [(.t 61), (.t 62)]⟩])
        (.cond (.t 63)
         (.exit 3)
         (.skip)))
        (.seq (.draw [⟨false, [1], ⟨(some 64), none, .move (.t 1)⟩⟩,
          ⟨false, [12], ⟨(some 65), none, .move (.t 12)⟩⟩,
          ⟨false, [2], ⟨(some 66), none, .move (.t 2)⟩⟩,
          ⟨false, [14], ⟨(some 67), none, .move (.t 14)⟩⟩,
          ⟨false, [64, 65, 66, 67], ⟨(some 68), none, .build [(.sc (.int .i64 (0))), (.sc (.int .i64 (0))), (.sc (.int .i64 (0))), (.sc (.int .i64 (0))), (.sc (.int .i64 (0))), (.sc (.int .i64 (0))), (.sc (.int .i64 (0)))] [((0, 1), (.c (.sc (.int .i64 (4))))), ((2, 1), (.t 64)), ((3, 1), (.t 65)), ((4, 1), (.t 66)), ((5, 1), (.t 67))]⟩⟩,
          ⟨false, [15], ⟨(some 69), none, .faddr 10 (.t 15)⟩⟩,
          ⟨false, [69], ⟨(some 70), none, .load none (.t 69)⟩⟩,
          ⟨false, [3], ⟨(some 71), none, .move (.t 3)⟩⟩,
          ⟨false, [70, 71], ⟨(some 72), none, .iaddrS 2 (.t 70) (.t 71)⟩⟩,
          ⟨false, [72], ⟨(some 73), none, .load (some 2) (.t 72)⟩⟩,
          ⟨false, [], ⟨(some 16), none, .alloc [(.sc (.int .i64 (0))), (.sc (.int .i64 (0))), (.sc (.int .i64 (0))), (.sc (.int .i64 (0))), (.sc (.int .i64 (0))), (.sc (.int .i64 (0))), (.sc (.int .i64 (0)))]⟩⟩,
          ⟨false, [], ⟨(some 17), none, .alloc [(.sc (.string ⟨#[]⟩)), (.sc (.int .i64 (0)))]⟩⟩,
          ⟨false, [16, 68], ⟨none, none, .store 7 (.t 16) (.t 68)⟩⟩]
          [⟨none, none, .store 2 (.t 17) (.t 73)⟩])
        (.seq (.seq (.ops [⟨(some 74), none, .faddr 1 (.t 10)⟩,
          ⟨(some 75), none, .load none (.t 74)⟩,
          ⟨(some 76), none, .bin .eql (.t 75) (.c (.sc (.int .i64 (1))))⟩,
          ⟨(some 77), none, .move (.t 76)⟩,
          ⟨(some 78), (some (77, true)), .faddr 0 (.t 17)⟩,
          ⟨(some 79), (some (77, true)), .load none (.t 78)⟩,
          ⟨(some 80), (some (77, true)), .bin .eql (.t 79) (.c (.sc (.string ⟨#[]⟩)))⟩,
          ⟨(some 81), none, .pick (.t 77) (.t 80) (.c (.sc (.bool false)))⟩])
        (.cond (.t 81)
         (.ops [⟨(some 82), none, .move (.t 4)⟩,
           ⟨(some 83), none, .load (some 7) (.t 11)⟩,
           ⟨none, none, .mapUp [.i, .i, .i, .i, .i, .i, .i] true (.t 82) (.t 83) (.c (.sc (.bool true)))⟩])
         (.skip)))
        (.seq (.seq (.ops [⟨(some 84), none, .faddr 0 (.t 17)⟩,
          ⟨(some 85), none, .load none (.t 84)⟩,
          ⟨(some 86), none, .bin .eql (.t 85) (.c (.sc (.string ⟨#[]⟩)))⟩,
          ⟨(some 87), none, .move (.t 86)⟩,
          ⟨(some 88), (some (87, true)), .faddr 1 (.t 17)⟩,
          ⟨(some 89), (some (87, true)), .load none (.t 88)⟩,
          ⟨(some 90), (some (87, true)), .bin .eql (.t 89) (.c (.sc (.int .i64 (2))))⟩,
          ⟨(some 91), none, .pick (.t 87) (.t 90) (.c (.sc (.bool false)))⟩,
          ⟨(some 92), none, .move (.t 91)⟩,
          ⟨(some 93), (some (92, true)), .faddr 1 (.t 10)⟩,
          ⟨(some 94), (some (92, true)), .load none (.t 93)⟩,
          ⟨(some 95), (some (92, true)), .bin .neq (.t 94) (.c (.sc (.int .i64 (2))))⟩,
          ⟨(some 96), none, .pick (.t 92) (.t 95) (.c (.sc (.bool false)))⟩])
        (.cond (.t 96)
         (.ops [⟨(some 97), none, .move (.t 4)⟩,
           ⟨(some 98), none, .load (some 7) (.t 16)⟩,
           ⟨none, none, .mapUp [.i, .i, .i, .i, .i, .i, .i] true (.t 97) (.t 98) (.c (.sc (.bool true)))⟩])
         (.skip)))
        (.draw [⟨false, [17], ⟨(some 99), none, .load (some 2) (.t 17)⟩⟩,
          ⟨false, [16], ⟨(some 100), none, .load (some 7) (.t 16)⟩⟩,
          ⟨false, [10, 99], ⟨none, none, .store 2 (.t 10) (.t 99)⟩⟩]
          [⟨none, none, .store 7 (.t 11) (.t 100)⟩])))))))
       (.ops [⟨(some 101), none, .bin .add (.t 56) (.c (.sc (.int .i64 (1))))⟩,
         ⟨(some 56), none, .move (.t 101)⟩]))))))))))
    (.ops [⟨(some 102), none, .bin .add (.t 24) (.c (.sc (.int .i64 (1))))⟩,
      ⟨(some 24), none, .move (.t 102)⟩])))))))
  (.seq (.ops [⟨(some 103), none, .faddr 1 (.t 10)⟩,
    ⟨(some 104), none, .load none (.t 103)⟩,
    ⟨(some 105), none, .bin .eql (.t 104) (.c (.sc (.int .i64 (1))))⟩])
  (.cond (.t 105)
   (.ops [⟨(some 106), none, .move (.t 4)⟩,
     ⟨(some 107), none, .load (some 7) (.t 11)⟩,
     ⟨none, none, .mapUp [.i, .i, .i, .i, .i, .i, .i] true (.t 106) (.t 107) (.c (.sc (.bool true)))⟩])
   (.skip))))),
  []⟩
theorem ok69 : EntryOk Tryz.prog 69 af69 := ⟨Tryz.f69, _, Tryz.func69, by decide, rfl, by kernel_rfl, by kernel_rfl, rfl⟩
/-- (hemiola/check.group).read -/
noncomputable def af74 : AF := ⟨37, .seq (.ops [⟨(some 2), none, .box (.t 0)⟩,
    ⟨(some 3), none, .box (.t 1)⟩,
    ⟨(some 4), none, .alloc [(.sc (.bool false)), (.sc (.int .i64 (0))), (.sc (.int .i64 (0))), (.sc (.int .i64 (0))), (.sc (.bool false)), (.sc (.int .i64 (0)))]⟩,
    ⟨(some 5), none, .move (.c (.sc (.bool false)))⟩])
  (.seq (.seq (.ops [⟨(some 6), none, .faddr 14 (.t 3)⟩,
    ⟨(some 7), none, .load none (.t 6)⟩,
    ⟨(some 8), none, .bin .neq (.t 7) (.c (.sc (.int .i64 (0))))⟩])
  (.cond (.t 8)
   (.seq (.ops [⟨(some 9), none, .load (some 6) (.t 2)⟩,
     ⟨(some 10), none, .load (some 22) (.t 3)⟩,
     ⟨(some 11), none, .call (.c (.fn (.func 128) [] [])) [(.t 9), (.t 10)]⟩,
     ⟨(some 12), none, .extract 0 (.t 11)⟩,
     ⟨(some 13), none, .extract 1 (.t 11)⟩,
     ⟨none, none, .store 6 (.t 4) (.t 12)⟩,
     ⟨(some 5), none, .move (.t 13)⟩])
   (.ret))
   (.skip)))
  (.seq (.seq (.ops [⟨(some 14), none, .faddr 3 (.t 2)⟩,
    ⟨(some 15), none, .load none (.t 14)⟩,
    ⟨(some 16), none, .bin .neq (.t 15) (.c (.sc (.int .i64 (0))))⟩])
  (.cond (.t 16)
   (.seq (.seq (.ops [⟨(some 17), none, .load (some 6) (.t 2)⟩,
     ⟨(some 18), none, .call (.c (.fn (.func 75) [] [])) [(.t 17)]⟩,
     ⟨(some 19), none, .un .not (.t 18)⟩])
   (.cond (.t 19)
    (.seq (.ops [⟨(some 20), none, .load (some 6) (.t 2)⟩,
      ⟨none, none, .store 6 (.t 4) (.t 20)⟩,
      ⟨(some 5), none, .move (.c (.sc (.bool false)))⟩])
    (.ret))
    (.skip)))
   (.ops [⟨(some 21), none, .build [(.sc (.bool false)), (.sc (.int .i64 (0))), (.sc (.int .i64 (0))), (.sc (.int .i64 (0))), (.sc (.bool false)), (.sc (.int .i64 (0)))] []⟩,
     ⟨none, none, .store 6 (.t 2) (.t 21)⟩]))
   (.skip)))
  (.seq (.seq (.ops [⟨(some 22), none, .faddr 12 (.t 3)⟩,
    ⟨(some 23), none, .load none (.t 22)⟩])
  (.cond (.t 23)
   (.seq (.seq (.ops [⟨(some 24), none, .faddr 0 (.t 2)⟩,
     ⟨(some 25), none, .load none (.t 24)⟩])
   (.cond (.t 25)
    (.seq (.ops [⟨(some 26), none, .load (some 6) (.t 2)⟩,
      ⟨none, none, .store 6 (.t 4) (.t 26)⟩,
      ⟨(some 5), none, .move (.c (.sc (.bool false)))⟩])
    (.ret))
    (.skip)))
   (.ops [⟨(some 27), none, .build [(.sc (.bool false)), (.sc (.int .i64 (0))), (.sc (.int .i64 (0))), (.sc (.int .i64 (0))), (.sc (.bool false)), (.sc (.int .i64 (0)))] [((0, 1), (.c (.sc (.bool true))))]⟩,
     ⟨none, none, .store 6 (.t 2) (.t 27)⟩]))
   (.skip)))
  (.seq (.ops [⟨(some 28), none, .faddr 1 (.t 2)⟩,
    ⟨(some 29), none, .load none (.t 28)⟩,
    ⟨(some 30), none, .bin .add (.t 29) (.c (.sc (.int .i64 (1))))⟩,
    ⟨(some 31), none, .faddr 1 (.t 2)⟩,
    ⟨none, none, .store 1 (.t 31) (.t 30)⟩])
  (.seq (.seq (.ops [⟨(some 32), none, .faddr 13 (.t 3)⟩,
    ⟨(some 33), none, .load none (.t 32)⟩,
    ⟨(some 34), none, .bin .neq (.t 33) (.c (.sc (.int .i64 (0))))⟩])
  (.cond (.t 34)
   (.ops [⟨(some 35), none, .build [(.sc (.bool false)), (.sc (.int .i64 (0))), (.sc (.int .i64 (0))), (.sc (.int .i64 (0))), (.sc (.bool false)), (.sc (.int .i64 (0)))] []⟩,
     ⟨none, none, .store 6 (.t 2) (.t 35)⟩])
   (.skip)))
  (.seq (.ops [⟨(some 36), none, .load (some 6) (.t 2)⟩,
    ⟨none, none, .store 6 (.t 4) (.t 36)⟩,
    ⟨(some 5), none, .move (.c (.sc (.bool true)))⟩])
  (.ret))))))),
  [.c 4 (some 6), .t 5]⟩
theorem ok74 : EntryOk Tryz.prog 74 af74 := ⟨Tryz.f74, _, Tryz.func74, by decide, rfl, by kernel_rfl, by kernel_rfl, rfl⟩
/-- (*hemiola/check.checker).tempi$1 -/
noncomputable def af80 : AF := ⟨71, .seq (.ops [⟨(some 3), none, .box (.t 1)⟩,
    ⟨(some 4), none, .move (.c (.sc (.bool false)))⟩])
  (.seq (.ops [⟨(some 11), none, .load (some 22) (.t 3)⟩,
    ⟨(some 12), none, .call (.c (.fn (.func 47) [] [])) [(.t 11)]⟩,
    ⟨(some 10), none, .move (.t 12)⟩,
    ⟨(some 13), none, .extract 0 (.t 10)⟩,
    ⟨(some 14), none, .extract 1 (.t 10)⟩,
    ⟨(some 5), none, .move (.t 13)⟩,
    ⟨(some 6), none, .move (.t 14)⟩])
  (.seq (.ops [⟨(some 15), none, .faddr 17 (.t 3)⟩,
    ⟨(some 16), none, .load none (.t 15)⟩,
    ⟨(some 17), none, .bin .neq (.t 16) (.c (.sc (.int .i64 (0))))⟩,
    ⟨(some 18), none, .move (.t 17)⟩,
    ⟨(some 19), (some (18, true)), .faddr 17 (.t 3)⟩,
    ⟨(some 20), (some (18, true)), .load none (.t 19)⟩,
    ⟨(some 21), (some (18, true)), .call (.c (.fn (.func 14) [] [])) [(.t 20), (.c (.sc (.int .i64 (50)))), (.c (.sc (.int .i64 (75))))]⟩,
    ⟨(some 22), (some (18, true)), .un .not (.t 21)⟩,
    ⟨(some 23), none, .pick (.t 18) (.t 22) (.c (.sc (.bool false)))⟩,
    ⟨(some 24), none, .move (.t 23)⟩,
    ⟨(some 25), (some (24, false)), .faddr 18 (.t 3)⟩,
    ⟨(some 26), (some (24, false)), .load none (.t 25)⟩,
    ⟨(some 27), (some (24, false)), .call (.c (.fn (.func 14) [] [])) [(.t 26), (.c (.sc (.int .i64 (0)))), (.c (.sc (.int .i64 (3))))]⟩,
    ⟨(some 28), (some (24, false)), .un .not (.t 27)⟩,
    ⟨(some 29), none, .pick (.t 24) (.c (.sc (.bool true))) (.t 28)⟩,
    ⟨(some 7), none, .move (.t 29)⟩])
  (.seq (.seq (.ops [⟨(some 30), none, .faddr 20 (.t 3)⟩,
    ⟨(some 31), none, .load none (.t 30)⟩,
    ⟨(some 32), none, .len (.t 31)⟩,
    ⟨(some 33), none, .move (.c (.sc (.int .i64 (0))))⟩])
  (.block 0 (.loop (.seq (.ops [⟨(some 34), none, .bin .lss (.t 33) (.t 32)⟩])
    (.seq (.cond (.t 34)
     (.skip)
     (.exit 0))
    (.seq (.block 1 (.seq (.ops [⟨(some 35), none, .move (.t 33)⟩,
       ⟨(some 36), none, .iaddrS 3 (.t 31) (.t 33)⟩,
       ⟨(some 37), none, .load (some 3) (.t 36)⟩,
       ⟨(some 9), none, .alloc [(.sc (.int .i64 (0))), (.sc (.int .i64 (0))), (.sc (.bool false))]⟩,
       ⟨(some 8), none, .move (.t 35)⟩,
       ⟨none, none, .store 3 (.t 9) (.t 37)⟩])
     (.draw [⟨true, [7], ⟨(some 38), none, .move (.t 7)⟩⟩,
       ⟨true, [38], ⟨(some 39), none, .move (.t 38)⟩⟩,
       ⟨true, [9, 39], ⟨(some 40), (some (39, false)), .faddr 0 (.t 9)⟩⟩,
       ⟨true, [40, 39], ⟨(some 41), (some (39, false)), .load none (.t 40)⟩⟩,
       ⟨false, [5, 39], ⟨(some 42), (some (39, false)), .move (.t 5)⟩⟩,
       ⟨false, [42, 39], ⟨(some 43), (some (39, false)), .bin .sub (.t 42) (.c (.sc (.int .i64 (1))))⟩⟩,
       ⟨true, [41, 43, 39], ⟨(some 44), (some (39, false)), .call (.c (.fn (.func 14) [] [])) [(.t 41), (.c (.sc (.int .i64 (0)))), (.t 43)]⟩⟩,
       ⟨true, [44, 39], ⟨(some 45), (some (39, false)), .un .not (.t 44)⟩⟩,
       ⟨true, [39, 45], ⟨(some 46), none, .pick (.t 39) (.c (.sc (.bool true))) (.t 45)⟩⟩,
       ⟨true, [46], ⟨(some 47), none, .move (.t 46)⟩⟩,
       ⟨true, [9, 47], ⟨(some 48), (some (47, false)), .faddr 1 (.t 9)⟩⟩,
       ⟨true, [48, 47], ⟨(some 49), (some (47, false)), .load none (.t 48)⟩⟩,
       ⟨true, [49, 47], ⟨(some 50), (some (47, false)), .call (.c (.fn (.func 14) [] [])) [(.t 49), (.c (.sc (.int .i64 (1)))), (.c (.sc (.int .i64 (60000000))))]⟩⟩,
       ⟨true, [50, 47], ⟨(some 51), (some (47, false)), .un .not (.t 50)⟩⟩,
       ⟨true, [47, 51], ⟨(some 52), none, .pick (.t 47) (.c (.sc (.bool true))) (.t 51)⟩⟩,
       ⟨true, [52], ⟨(some 53), none, .move (.t 52)⟩⟩,
       ⟨true, [8, 53], ⟨(some 54), (some (53, false)), .move (.t 8)⟩⟩,
       ⟨true, [54, 53], ⟨(some 55), (some (53, false)), .bin .gtr (.t 54) (.c (.sc (.int .i64 (0))))⟩⟩,
       ⟨true, [55, 53], ⟨(some 56), (some (53, false)), .move (.t 55)⟩⟩,
       ⟨false, [9, 56], ⟨(some 57), (some (56, true)), .faddr 0 (.t 9)⟩⟩,
       ⟨false, [57, 56], ⟨(some 58), (some (56, true)), .load none (.t 57)⟩⟩,
       ⟨false, [3, 56], ⟨(some 59), (some (56, true)), .faddr 20 (.t 3)⟩⟩,
       ⟨false, [59, 56], ⟨(some 60), (some (56, true)), .load none (.t 59)⟩⟩,
       ⟨false, [8, 56], ⟨(some 61), (some (56, true)), .move (.t 8)⟩⟩,
       ⟨false, [61, 56], ⟨(some 62), (some (56, true)), .bin .sub (.t 61) (.c (.sc (.int .i64 (1))))⟩⟩,
       ⟨false, [60, 62, 56], ⟨(some 63), (some (56, true)), .iaddrS 3 (.t 60) (.t 62)⟩⟩,
       ⟨false, [63, 56], ⟨(some 64), (some (56, true)), .faddr 0 (.t 63)⟩⟩,
       ⟨false, [64, 56], ⟨(some 65), (some (56, true)), .load none (.t 64)⟩⟩]
       [⟨(some 66), (some (56, true)), .bin .leq (.t 58) (.t 65)⟩,
       ⟨(some 67), (some (53, false)), .pick (.t 56) (.t 66) (.c (.sc (.bool false)))⟩,
       ⟨(some 68), none, .pick (.t 53) (.c (.sc (.bool true))) (.t 67)⟩,
       ⟨(some 7), none, .move (.t 68)⟩])))
    (.ops [⟨(some 69), none, .bin .add (.t 33) (.c (.sc (.int .i64 (1))))⟩,
      ⟨(some 33), none, .move (.t 69)⟩])))))))
  (.seq (.ops [⟨(some 70), none, .move (.t 7)⟩,
    ⟨(some 4), none, .move (.t 70)⟩])
  (.ret))))),
  [.t 4]⟩
theorem ok80 : EntryOk Tryz.prog 80 af80 := ⟨Tryz.f80, _, Tryz.func80, by decide, rfl, by kernel_rfl, by kernel_rfl, rfl⟩
/-- hemiola/score.visit -/
noncomputable def af88 : AF := ⟨4, .seq (.ops [⟨(some 1), none, .box (.t 0)⟩,
    ⟨(some 2), none, .move (.c (.sc .nilFunc))⟩])
  (.seq (.ops [⟨(some 3), none, .mkFn (.func 138) [] [(.t 1)]⟩,
    ⟨(some 2), none, .move (.t 3)⟩])
  (.ret)),
  [.t 2]⟩
theorem ok88 : EntryOk Tryz.prog 88 af88 := ⟨Tryz.f88, _, Tryz.func88, by decide, rfl, by kernel_rfl, by kernel_rfl, rfl⟩
/-- (*hemiola/check.checker).filled$1$1 -/
noncomputable def af93 : AF := ⟨6, .seq (.ops [⟨(some 1), none, .box (.t 0)⟩,
    ⟨(some 2), none, .move (.c (.sc (.bool false)))⟩])
  (.seq (.ops [⟨(some 3), none, .load (some 13) (.t 1)⟩,
    ⟨(some 4), none, .call (.c (.fn (.func 55) [] [])) [(.t 3)]⟩,
    ⟨(some 5), none, .bin .neq (.t 4) (.c (.sc (.int .i64 (0))))⟩,
    ⟨(some 2), none, .move (.t 5)⟩])
  (.ret)),
  [.t 2]⟩
theorem ok93 : EntryOk Tryz.prog 93 af93 := ⟨Tryz.f93, _, Tryz.func93, by decide, rfl, by kernel_rfl, by kernel_rfl, rfl⟩
/-- (*hemiola/check.checker).filled$1$2$1 -/
noncomputable def af97 : AF := ⟨18, .seq (.ops [⟨(some 4), none, .box (.t 0)⟩,
    ⟨(some 5), none, .move (.c (.sc (.bool false)))⟩])
  (.seq (.draw [⟨false, [4], ⟨(some 6), none, .faddr 0 (.t 4)⟩⟩,
    ⟨false, [6], ⟨(some 7), none, .load none (.t 6)⟩⟩,
    ⟨false, [1], ⟨(some 8), none, .load none (.t 1)⟩⟩,
    ⟨true, [7, 8], ⟨(some 9), none, .call (.c (.fn (.func 98) [] [])) [(.t 7), (.t 8)]⟩⟩,
    ⟨true, [9], ⟨(some 10), none, .un .not (.t 9)⟩⟩,
    ⟨true, [10], ⟨(some 11), none, .move (.t 10)⟩⟩,
    ⟨false, [2, 11], ⟨(some 12), (some (11, true)), .load none (.t 2)⟩⟩,
    ⟨false, [4, 11], ⟨(some 13), (some (11, true)), .load (some 2) (.t 4)⟩⟩,
    ⟨false, [3, 11], ⟨(some 14), (some (11, true)), .load none (.t 3)⟩⟩,
    ⟨false, [13, 14, 11], ⟨(some 15), (some (11, true)), .call (.c (.fn (.func 99) [] [])) [(.t 13), (.t 14)]⟩⟩]
    [⟨(some 16), (some (11, true)), .call (.t 12) [(.t 15)]⟩,
    ⟨(some 17), none, .pick (.t 11) (.t 16) (.c (.sc (.bool false)))⟩,
    ⟨(some 5), none, .move (.t 17)⟩])
  (.ret)),
  [.t 5]⟩
theorem ok97 : EntryOk Tryz.prog 97 af97 := ⟨Tryz.f97, _, Tryz.func97, by decide, rfl, by kernel_rfl, by kernel_rfl, rfl⟩
/-- hemiola/event.within -/
noncomputable def af101 : AF := ⟨12, .seq (.ops [⟨(some 4), none, .move (.c (.sc (.int .i64 (0))))⟩])
  (.seq (.seq (.ops [⟨(some 5), none, .move (.t 0)⟩,
    ⟨(some 6), none, .bin .lss (.t 5) (.c (.sc (.int .i64 (0))))⟩,
    ⟨(some 7), none, .move (.t 6)⟩,
    ⟨(some 8), (some (7, false)), .move (.t 0)⟩,
    ⟨(some 9), (some (7, false)), .move (.t 1)⟩,
    ⟨(some 10), (some (7, false)), .bin .gtr (.t 8) (.t 9)⟩,
    ⟨(some 11), none, .pick (.t 7) (.c (.sc (.bool true))) (.t 10)⟩])
  (.cond (.t 11)
   (.seq (.ops [⟨(some 4), none, .move (.c (.sc (.int .i64 (2))))⟩])
   (.ret))
   (.skip)))
  (.seq (.ops [⟨(some 4), none, .move (.c (.sc (.int .i64 (0))))⟩])
  (.ret))),
  [.t 4]⟩
theorem ok101 : EntryOk Tryz.prog 101 af101 := ⟨Tryz.f101, _, Tryz.func101, by decide, rfl, by kernel_rfl, by kernel_rfl, rfl⟩
/-- slices.IndexFunc[[]hemiola/api.Head,hemiola/api.Head] -/
noncomputable def af111 : AF := ⟨19, .seq (.ops [⟨(some 4), none, .move (.c (.sc (.int .i64 (0))))⟩])
  (.seq (.seq (.ops [⟨(some 6), none, .move (.t 0)⟩,
    ⟨(some 7), none, .len (.t 6)⟩,
    ⟨(some 8), none, .move (.c (.sc (.int .i64 (0))))⟩])
  (.block 0 (.loop (.seq (.ops [⟨(some 9), none, .bin .lss (.t 8) (.t 7)⟩])
    (.seq (.cond (.t 9)
     (.skip)
     (.exit 0))
    (.seq (.block 1 (.seq (.ops [⟨(some 10), none, .move (.t 8)⟩,
       ⟨(some 5), none, .move (.t 10)⟩])
     (.seq (.ops [⟨(some 11), none, .move (.t 1)⟩,
       ⟨(some 12), none, .move (.t 0)⟩,
       ⟨(some 13), none, .move (.t 5)⟩,
       ⟨(some 14), none, .iaddrS 5 (.t 12) (.t 13)⟩,
       ⟨(some 15), none, .load (some 5) (.t 14)⟩,
       ⟨(some 16), none, .call (.t 11) [(.t 15)]⟩])
     (.cond (.t 16)
      (.seq (.ops [⟨(some 17), none, .move (.t 5)⟩,
        ⟨(some 4), none, .move (.t 17)⟩])
      (.ret))
      (.skip)))))
    (.ops [⟨(some 18), none, .bin .add (.t 8) (.c (.sc (.int .i64 (1))))⟩,
      ⟨(some 8), none, .move (.t 18)⟩])))))))
  (.seq (.ops [⟨(some 4), none, .move (.c (.sc (.int .i64 (-1))))⟩])
  (.ret))),
  [.t 4]⟩
theorem ok111 : EntryOk Tryz.prog 111 af111 := ⟨Tryz.f111, _, Tryz.func111, by decide, rfl, by kernel_rfl, by kernel_rfl, rfl⟩
/-- hemiola/check.absent -/
noncomputable def af119 : AF := ⟨19, .seq (.ops [⟨(some 2), none, .box (.t 0)⟩,
    ⟨(some 4), none, .move (.c (.sc (.bool false)))⟩])
  (.seq (.ops [⟨(some 5), none, .move (.t 1)⟩,
    ⟨(some 6), none, .faddr 10 (.t 2)⟩,
    ⟨(some 7), none, .load none (.t 6)⟩,
    ⟨(some 8), none, .len (.t 7)⟩,
    ⟨(some 9), none, .bin .geq (.t 5) (.t 8)⟩,
    ⟨(some 10), none, .move (.t 9)⟩,
    ⟨(some 11), (some (10, false)), .faddr 10 (.t 2)⟩,
    ⟨(some 12), (some (10, false)), .load none (.t 11)⟩,
    ⟨(some 13), (some (10, false)), .move (.t 1)⟩,
    ⟨(some 14), (some (10, false)), .iaddrS 2 (.t 12) (.t 13)⟩,
    ⟨(some 15), (some (10, false)), .load (some 2) (.t 14)⟩,
    ⟨(some 16), (some (10, false)), .build [(.sc (.string ⟨#[]⟩)), (.sc (.int .i64 (0)))] []⟩,
    ⟨(some 17), (some (10, false)), .eqC [.s, .i] false (.t 15) (.t 16)⟩,
    ⟨(some 18), none, .pick (.t 10) (.c (.sc (.bool true))) (.t 17)⟩,
    ⟨(some 4), none, .move (.t 18)⟩])
  (.ret)),
  [.t 4]⟩
theorem ok119 : EntryOk Tryz.prog 119 af119 := ⟨Tryz.f119, _, Tryz.func119, by decide, rfl, by kernel_rfl, by kernel_rfl, rfl⟩
/-- hemiola/clef.kinds -/
noncomputable def af139 : AF := ⟨11, .seq (.ops [⟨(some 0), none, .alloc [(.sc (.string ⟨#[]⟩)), (.sc (.int .u8 (0))), (.sc (.int .i64 (0))), (.sc (.int .i64 (0))), (.sc (.int .i64 (0))), (.sc (.int .i64 (0))), (.sc (.int .i64 (0))), (.sc (.string ⟨#[]⟩)), (.sc (.int .u8 (0))), (.sc (.int .i64 (0))), (.sc (.int .i64 (0))), (.sc (.int .i64 (0))), (.sc (.int .i64 (0))), (.sc (.int .i64 (0))), (.sc (.string ⟨#[]⟩)), (.sc (.int .u8 (0))), (.sc (.int .i64 (0))), (.sc (.int .i64 (0))), (.sc (.int .i64 (0))), (.sc (.int .i64 (0))), (.sc (.int .i64 (0))), (.sc (.string ⟨#[]⟩)), (.sc (.int .u8 (0))), (.sc (.int .i64 (0))), (.sc (.int .i64 (0))), (.sc (.int .i64 (0))), (.sc (.int .i64 (0))), (.sc (.int .i64 (0))), (.sc (.string ⟨#[]⟩)), (.sc (.int .u8 (0))), (.sc (.int .i64 (0))), (.sc (.int .i64 (0))), (.sc (.int .i64 (0))), (.sc (.int .i64 (0))), (.sc (.int .i64 (0))), (.sc (.string ⟨#[]⟩)), (.sc (.int .u8 (0))), (.sc (.int .i64 (0))), (.sc (.int .i64 (0))), (.sc (.int .i64 (0))), (.sc (.int .i64 (0))), (.sc (.int .i64 (0))), (.sc (.string ⟨#[]⟩)), (.sc (.int .u8 (0))), (.sc (.int .i64 (0))), (.sc (.int .i64 (0))), (.sc (.int .i64 (0))), (.sc (.int .i64 (0))), (.sc (.int .i64 (0))), (.sc (.string ⟨#[]⟩)), (.sc (.int .u8 (0))), (.sc (.int .i64 (0))), (.sc (.int .i64 (0))), (.sc (.int .i64 (0))), (.sc (.int .i64 (0))), (.sc (.int .i64 (0))), (.sc (.string ⟨#[]⟩)), (.sc (.int .u8 (0))), (.sc (.int .i64 (0))), (.sc (.int .i64 (0))), (.sc (.int .i64 (0))), (.sc (.int .i64 (0))), (.sc (.int .i64 (0)))]⟩])
  (.seq (.ops [⟨(some 1), none, .build [(.sc (.string ⟨#[]⟩)), (.sc (.int .u8 (0))), (.sc (.int .i64 (0))), (.sc (.int .i64 (0))), (.sc (.int .i64 (0))), (.sc (.int .i64 (0))), (.sc (.int .i64 (0)))] [((0, 1), (.c (.sc (.string ⟨#[116, 114, 101, 98, 108, 101]⟩)))), ((1, 1), (.c (.sc (.int .u8 (71))))), ((2, 1), (.c (.sc (.int .i64 (-2))))), ((3, 1), (.c (.sc (.int .i64 (0))))), ((4, 1), (.c (.sc (.int .i64 (34))))), ((5, 1), (.c (.sc (.int .i64 (-1))))), ((6, 1), (.c (.sc (.int .i64 (-3)))))]⟩,
    ⟨(some 2), none, .build [(.sc (.string ⟨#[]⟩)), (.sc (.int .u8 (0))), (.sc (.int .i64 (0))), (.sc (.int .i64 (0))), (.sc (.int .i64 (0))), (.sc (.int .i64 (0))), (.sc (.int .i64 (0)))] [((0, 1), (.c (.sc (.string ⟨#[98, 97, 115, 115]⟩)))), ((1, 1), (.c (.sc (.int .u8 (70))))), ((2, 1), (.c (.sc (.int .i64 (2))))), ((3, 1), (.c (.sc (.int .i64 (0))))), ((4, 1), (.c (.sc (.int .i64 (22))))), ((5, 1), (.c (.sc (.int .i64 (-3))))), ((6, 1), (.c (.sc (.int .i64 (-5)))))]⟩,
    ⟨(some 3), none, .build [(.sc (.string ⟨#[]⟩)), (.sc (.int .u8 (0))), (.sc (.int .i64 (0))), (.sc (.int .i64 (0))), (.sc (.int .i64 (0))), (.sc (.int .i64 (0))), (.sc (.int .i64 (0)))] [((0, 1), (.c (.sc (.string ⟨#[97, 108, 116, 111]⟩)))), ((1, 1), (.c (.sc (.int .u8 (67))))), ((2, 1), (.c (.sc (.int .i64 (0))))), ((3, 1), (.c (.sc (.int .i64 (0))))), ((4, 1), (.c (.sc (.int .i64 (28))))), ((5, 1), (.c (.sc (.int .i64 (-2))))), ((6, 1), (.c (.sc (.int .i64 (-4)))))]⟩,
    ⟨(some 4), none, .build [(.sc (.string ⟨#[]⟩)), (.sc (.int .u8 (0))), (.sc (.int .i64 (0))), (.sc (.int .i64 (0))), (.sc (.int .i64 (0))), (.sc (.int .i64 (0))), (.sc (.int .i64 (0)))] [((0, 1), (.c (.sc (.string ⟨#[116, 101, 110, 111, 114]⟩)))), ((1, 1), (.c (.sc (.int .u8 (67))))), ((2, 1), (.c (.sc (.int .i64 (2))))), ((3, 1), (.c (.sc (.int .i64 (0))))), ((4, 1), (.c (.sc (.int .i64 (26))))), ((5, 1), (.c (.sc (.int .i64 (-2))))), ((6, 1), (.c (.sc (.int .i64 (-2)))))]⟩,
    ⟨(some 5), none, .build [(.sc (.string ⟨#[]⟩)), (.sc (.int .u8 (0))), (.sc (.int .i64 (0))), (.sc (.int .i64 (0))), (.sc (.int .i64 (0))), (.sc (.int .i64 (0))), (.sc (.int .i64 (0)))] [((0, 1), (.c (.sc (.string ⟨#[115, 111, 112, 114, 97, 110, 111]⟩)))), ((1, 1), (.c (.sc (.int .u8 (67))))), ((2, 1), (.c (.sc (.int .i64 (-4))))), ((3, 1), (.c (.sc (.int .i64 (0))))), ((4, 1), (.c (.sc (.int .i64 (32))))), ((5, 1), (.c (.sc (.int .i64 (-2))))), ((6, 1), (.c (.sc (.int .i64 (-3)))))]⟩,
    ⟨(some 6), none, .build [(.sc (.string ⟨#[]⟩)), (.sc (.int .u8 (0))), (.sc (.int .i64 (0))), (.sc (.int .i64 (0))), (.sc (.int .i64 (0))), (.sc (.int .i64 (0))), (.sc (.int .i64 (0)))] [((0, 1), (.c (.sc (.string ⟨#[109, 101, 122, 122, 111, 115, 111, 112, 114, 97, 110, 111]⟩)))), ((1, 1), (.c (.sc (.int .u8 (67))))), ((2, 1), (.c (.sc (.int .i64 (-2))))), ((3, 1), (.c (.sc (.int .i64 (0))))), ((4, 1), (.c (.sc (.int .i64 (30))))), ((5, 1), (.c (.sc (.int .i64 (-2))))), ((6, 1), (.c (.sc (.int .i64 (-3)))))]⟩,
    ⟨(some 7), none, .build [(.sc (.string ⟨#[]⟩)), (.sc (.int .u8 (0))), (.sc (.int .i64 (0))), (.sc (.int .i64 (0))), (.sc (.int .i64 (0))), (.sc (.int .i64 (0))), (.sc (.int .i64 (0)))] [((0, 1), (.c (.sc (.string ⟨#[98, 97, 114, 105, 116, 111, 110, 101]⟩)))), ((1, 1), (.c (.sc (.int .u8 (70))))), ((2, 1), (.c (.sc (.int .i64 (0))))), ((3, 1), (.c (.sc (.int .i64 (0))))), ((4, 1), (.c (.sc (.int .i64 (24))))), ((5, 1), (.c (.sc (.int .i64 (-2))))), ((6, 1), (.c (.sc (.int .i64 (-3)))))]⟩,
    ⟨(some 8), none, .build [(.sc (.string ⟨#[]⟩)), (.sc (.int .u8 (0))), (.sc (.int .i64 (0))), (.sc (.int .i64 (0))), (.sc (.int .i64 (0))), (.sc (.int .i64 (0))), (.sc (.int .i64 (0)))] [((0, 1), (.c (.sc (.string ⟨#[116, 114, 101, 98, 108, 101, 56]⟩)))), ((1, 1), (.c (.sc (.int .u8 (71))))), ((2, 1), (.c (.sc (.int .i64 (-2))))), ((3, 1), (.c (.sc (.int .i64 (-1))))), ((4, 1), (.c (.sc (.int .i64 (27))))), ((5, 1), (.c (.sc (.int .i64 (-1))))), ((6, 1), (.c (.sc (.int .i64 (-3)))))]⟩,
    ⟨(some 9), none, .build [(.sc (.string ⟨#[]⟩)), (.sc (.int .u8 (0))), (.sc (.int .i64 (0))), (.sc (.int .i64 (0))), (.sc (.int .i64 (0))), (.sc (.int .i64 (0))), (.sc (.int .i64 (0)))] [((0, 1), (.c (.sc (.string ⟨#[98, 97, 115, 115, 56]⟩)))), ((1, 1), (.c (.sc (.int .u8 (70))))), ((2, 1), (.c (.sc (.int .i64 (2))))), ((3, 1), (.c (.sc (.int .i64 (-1))))), ((4, 1), (.c (.sc (.int .i64 (15))))), ((5, 1), (.c (.sc (.int .i64 (-3))))), ((6, 1), (.c (.sc (.int .i64 (-5)))))]⟩,
    ⟨(some 10), none, .build [(.sc (.string ⟨#[]⟩)), (.sc (.int .u8 (0))), (.sc (.int .i64 (0))), (.sc (.int .i64 (0))), (.sc (.int .i64 (0))), (.sc (.int .i64 (0))), (.sc (.int .i64 (0))), (.sc (.string ⟨#[]⟩)), (.sc (.int .u8 (0))), (.sc (.int .i64 (0))), (.sc (.int .i64 (0))), (.sc (.int .i64 (0))), (.sc (.int .i64 (0))), (.sc (.int .i64 (0))), (.sc (.string ⟨#[]⟩)), (.sc (.int .u8 (0))), (.sc (.int .i64 (0))), (.sc (.int .i64 (0))), (.sc (.int .i64 (0))), (.sc (.int .i64 (0))), (.sc (.int .i64 (0))), (.sc (.string ⟨#[]⟩)), (.sc (.int .u8 (0))), (.sc (.int .i64 (0))), (.sc (.int .i64 (0))), (.sc (.int .i64 (0))), (.sc (.int .i64 (0))), (.sc (.int .i64 (0))), (.sc (.string ⟨#[]⟩)), (.sc (.int .u8 (0))), (.sc (.int .i64 (0))), (.sc (.int .i64 (0))), (.sc (.int .i64 (0))), (.sc (.int .i64 (0))), (.sc (.int .i64 (0))), (.sc (.string ⟨#[]⟩)), (.sc (.int .u8 (0))), (.sc (.int .i64 (0))), (.sc (.int .i64 (0))), (.sc (.int .i64 (0))), (.sc (.int .i64 (0))), (.sc (.int .i64 (0))), (.sc (.string ⟨#[]⟩)), (.sc (.int .u8 (0))), (.sc (.int .i64 (0))), (.sc (.int .i64 (0))), (.sc (.int .i64 (0))), (.sc (.int .i64 (0))), (.sc (.int .i64 (0))), (.sc (.string ⟨#[]⟩)), (.sc (.int .u8 (0))), (.sc (.int .i64 (0))), (.sc (.int .i64 (0))), (.sc (.int .i64 (0))), (.sc (.int .i64 (0))), (.sc (.int .i64 (0))), (.sc (.string ⟨#[]⟩)), (.sc (.int .u8 (0))), (.sc (.int .i64 (0))), (.sc (.int .i64 (0))), (.sc (.int .i64 (0))), (.sc (.int .i64 (0))), (.sc (.int .i64 (0)))] [((0, 7), (.t 1)), ((7, 7), (.t 2)), ((14, 7), (.t 3)), ((21, 7), (.t 4)), ((28, 7), (.t 5)), ((35, 7), (.t 6)), ((42, 7), (.t 7)), ((49, 7), (.t 8)), ((56, 7), (.t 9))]⟩,
    ⟨none, none, .store 63 (.t 0) (.t 10)⟩])
  (.ret)),
  [.c 0 (some 63)]⟩
theorem ok139 : EntryOk Tryz.prog 139 af139 := ⟨Tryz.f139, _, Tryz.func139, by decide, rfl, by kernel_rfl, by kernel_rfl, rfl⟩
/-- slices.IndexFunc[[]hemiola/api.Voice,hemiola/api.Voice] -/
noncomputable def af143 : AF := ⟨19, .seq (.ops [⟨(some 4), none, .move (.c (.sc (.int .i64 (0))))⟩])
  (.seq (.seq (.ops [⟨(some 6), none, .move (.t 0)⟩,
    ⟨(some 7), none, .len (.t 6)⟩,
    ⟨(some 8), none, .move (.c (.sc (.int .i64 (0))))⟩])
  (.block 0 (.loop (.seq (.ops [⟨(some 9), none, .bin .lss (.t 8) (.t 7)⟩])
    (.seq (.cond (.t 9)
     (.skip)
     (.exit 0))
    (.seq (.block 1 (.seq (.ops [⟨(some 10), none, .move (.t 8)⟩,
       ⟨(some 5), none, .move (.t 10)⟩])
     (.seq (.ops [⟨(some 11), none, .move (.t 1)⟩,
       ⟨(some 12), none, .move (.t 0)⟩,
       ⟨(some 13), none, .move (.t 5)⟩,
       ⟨(some 14), none, .iaddrS 2 (.t 12) (.t 13)⟩,
       ⟨(some 15), none, .load (some 2) (.t 14)⟩,
       ⟨(some 16), none, .call (.t 11) [(.t 15)]⟩])
     (.cond (.t 16)
      (.seq (.ops [⟨(some 17), none, .move (.t 5)⟩,
        ⟨(some 4), none, .move (.t 17)⟩])
      (.ret))
      (.skip)))))
    (.ops [⟨(some 18), none, .bin .add (.t 8) (.c (.sc (.int .i64 (1))))⟩,
      ⟨(some 8), none, .move (.t 18)⟩])))))))
  (.seq (.ops [⟨(some 4), none, .move (.c (.sc (.int .i64 (-1))))⟩])
  (.ret))),
  [.t 4]⟩
theorem ok143 : EntryOk Tryz.prog 143 af143 := ⟨Tryz.f143, _, Tryz.func143, by decide, rfl, by kernel_rfl, by kernel_rfl, rfl⟩
/-- slices.Equal[[]hemiola/api.Grace,hemiola/api.Grace] -/
noncomputable def af147 : AF := ⟨26, .seq (.ops [⟨(some 4), none, .move (.c (.sc (.bool false)))⟩])
  (.seq (.seq (.ops [⟨(some 6), none, .move (.t 0)⟩,
    ⟨(some 7), none, .len (.t 6)⟩,
    ⟨(some 8), none, .move (.t 1)⟩,
    ⟨(some 9), none, .len (.t 8)⟩,
    ⟨(some 10), none, .bin .neq (.t 7) (.t 9)⟩])
  (.cond (.t 10)
   (.seq (.ops [⟨(some 4), none, .move (.c (.sc (.bool false)))⟩])
   (.ret))
   (.skip)))
  (.seq (.seq (.ops [⟨(some 11), none, .move (.t 0)⟩,
    ⟨(some 12), none, .len (.t 11)⟩,
    ⟨(some 13), none, .move (.c (.sc (.int .i64 (0))))⟩])
  (.block 0 (.loop (.seq (.ops [⟨(some 14), none, .bin .lss (.t 13) (.t 12)⟩])
    (.seq (.cond (.t 14)
     (.skip)
     (.exit 0))
    (.seq (.block 1 (.seq (.ops [⟨(some 15), none, .move (.t 13)⟩,
       ⟨(some 5), none, .move (.t 15)⟩])
     (.seq (.draw [⟨false, [0], ⟨(some 16), none, .move (.t 0)⟩⟩,
       ⟨false, [5], ⟨(some 17), none, .move (.t 5)⟩⟩,
       ⟨false, [16, 17], ⟨(some 18), none, .iaddrS 5 (.t 16) (.t 17)⟩⟩,
       ⟨false, [18], ⟨(some 19), none, .load (some 5) (.t 18)⟩⟩,
       ⟨false, [1], ⟨(some 20), none, .move (.t 1)⟩⟩,
       ⟨false, [5], ⟨(some 21), none, .move (.t 5)⟩⟩,
       ⟨false, [20, 21], ⟨(some 22), none, .iaddrS 5 (.t 20) (.t 21)⟩⟩,
       ⟨false, [22], ⟨(some 23), none, .load (some 5) (.t 22)⟩⟩]
       [⟨(some 24), none, .eqC [.i, .i, .i, .i, .b] true (.t 19) (.t 23)⟩])
     (.cond (.t 24)
      (.seq (.ops [⟨(some 4), none, .move (.c (.sc (.bool false)))⟩])
      (.ret))
      (.skip)))))
    (.ops [⟨(some 25), none, .bin .add (.t 13) (.c (.sc (.int .i64 (1))))⟩,
      ⟨(some 13), none, .move (.t 25)⟩])))))))
  (.seq (.ops [⟨(some 4), none, .move (.c (.sc (.bool true)))⟩])
  (.ret)))),
  [.t 4]⟩
theorem ok147 : EntryOk Tryz.prog 147 af147 := ⟨Tryz.f147, _, Tryz.func147, by decide, rfl, by kernel_rfl, by kernel_rfl, rfl⟩
/-- hemiola/metre.unit -/
noncomputable def af170 : AF := ⟨6, .seq (.ops [⟨(some 1), none, .box (.t 0)⟩,
    ⟨(some 2), none, .move (.c (.sc (.int .i64 (0))))⟩])
  (.seq (.ops [⟨(some 3), none, .faddr 1 (.t 1)⟩,
    ⟨(some 4), none, .load none (.t 3)⟩,
    ⟨(some 5), none, .bin .quo (.c (.sc (.int .i64 (1935360)))) (.t 4)⟩,
    ⟨(some 2), none, .move (.t 5)⟩])
  (.ret)),
  [.t 2]⟩
theorem ok170 : EntryOk Tryz.prog 170 af170 := ⟨Tryz.f170, _, Tryz.func170, by decide, rfl, by kernel_rfl, by kernel_rfl, rfl⟩
end Go.Proofs.YtfhijafkpenogaaGreatDoor
