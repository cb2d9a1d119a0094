/- Resolved code, printed by a program. -/
import Derived.Test.YtmbchdfgckmpoaaGreatDoorPE21
import Derived.Test.YtmbchdfgckmpoaaGreatDoorProg
namespace Go.Proofs.YtmbchdfgckmpoaaGreatDoor
open Go.PE

/-- hemiola/hemiolalaw46.simple -/
noncomputable def af11 : AF := ⟨33, .seq (.ops [⟨(some 4), none, .alloc [(.sc (.string ⟨#[]⟩)), (.sc (.bool false)), (.sl true .full 0 []), (.sl true .full 0 []), (.sl true .full 0 []), (.sl true .full 0 [])]⟩])
  (.seq (.ops [⟨(some 6), none, .build [(.sc (.int .i64 (0))), (.sc (.int .i64 (0)))] [((1, 1), (.c (.sc (.int .i64 (4)))))]⟩,
    ⟨(some 7), none, .build [(.sc (.int .i64 (0))), (.sc (.int .i64 (0)))] [((0, 1), (.c (.sc (.int .i64 (2)))))]⟩,
    ⟨(some 8), none, .build [(.sc (.int .i64 (0))), (.sc (.int .i64 (0))), (.sc (.int .i64 (0)))] [((2, 1), (.c (.sc (.int .i64 (4)))))]⟩,
    ⟨(some 9), none, .build [(.sc (.int .i64 (0))), (.sc (.int .i64 (0))), (.sc (.int .i64 (0))), (.sc (.bool false)), (.sc (.int .i64 (0)))] [((0, 3), (.t 8))]⟩,
    ⟨(some 10), none, .buildSl 5 [(.t 9)]⟩,
    ⟨(some 11), none, .move (.t 0)⟩,
    ⟨(some 12), none, .move (.t 1)⟩,
    ⟨(some 13), none, .build [(.sc (.int .i64 (0))), (.sc (.int .i64 (0))), (.sc (.int .i64 (0))), (.sc (.int .i64 (0))), (.sc (.int .i64 (0))), (.sl true .full 0 []), (.sl true .full 0 []), (.sc (.int .i64 (0))), (.sc (.int .i64 (0))), (.sc (.int .i64 (0))), (.sl true .full 0 []), (.sc (.int .i64 (0))), (.sc (.int .i64 (0)))] [((0, 2), (.t 6)), ((2, 1), (.c (.sc (.int .i64 (1))))), ((3, 2), (.t 7)), ((5, 1), (.t 10)), ((7, 1), (.t 11)), ((9, 1), (.t 12))]⟩,
    ⟨(some 5), none, .alloc [(.sc (.int .i64 (0))), (.sc (.int .i64 (0))), (.sc (.int .i64 (0))), (.sc (.int .i64 (0))), (.sc (.int .i64 (0))), (.sl true .full 0 []), (.sl true .full 0 []), (.sc (.int .i64 (0))), (.sc (.int .i64 (0))), (.sc (.int .i64 (0))), (.sl true .full 0 []), (.sc (.int .i64 (0))), (.sc (.int .i64 (0)))]⟩,
    ⟨none, none, .store 13 (.t 5) (.t 13)⟩])
  (.seq (.ops [⟨(some 14), none, .build [(.sc (.int .i64 (0))), (.sc (.int .i64 (0)))] [((1, 1), (.c (.sc (.int .i64 (1)))))]⟩,
    ⟨(some 15), none, .build [(.sc (.int .i64 (0))), (.sc (.int .i64 (0)))] [((1, 1), (.c (.sc (.int .i64 (2)))))]⟩,
    ⟨(some 16), none, .build [(.sc (.int .i64 (0))), (.sc (.int .i64 (0))), (.sc (.int .i64 (0)))] [((0, 2), (.t 15)), ((2, 1), (.c (.sc (.int .i64 (1)))))]⟩,
    ⟨(some 17), none, .buildSl 3 [(.t 16)]⟩,
    ⟨(some 18), none, .build [(.sc (.int .i64 (0))), (.sc (.int .i64 (0))), (.sc (.string ⟨#[]⟩)), (.sc (.int .i64 (0))), (.sc (.int .i64 (0))), (.sl true .full 0 [])] [((0, 2), (.t 14)), ((5, 1), (.t 17))]⟩,
    ⟨(some 19), none, .buildSl 6 [(.t 18)]⟩,
    ⟨(some 20), none, .build [(.sc (.int .i64 (0))), (.sc (.int .i64 (0)))] [((1, 1), (.c (.sc (.int .i64 (3)))))]⟩,
    ⟨(some 21), none, .build [(.sc (.int .i64 (0))), (.sc (.int .i64 (0))), (.sc (.int .i64 (0))), (.sc (.int .i64 (0))), (.sc (.int .i64 (0))), (.sc (.int .i64 (0))), (.sc (.int .i64 (0))), (.sc (.int .i64 (0)))] [((0, 1), (.c (.sc (.int .i64 (1))))), ((1, 1), (.c (.sc (.int .i64 (4)))))]⟩,
    ⟨(some 22), none, .load (some 13) (.t 5)⟩,
    ⟨(some 23), none, .buildSl 13 [(.t 22)]⟩,
    ⟨(some 24), none, .build [(.sl true .full 0 []), (.sl true .full 0 [])] [((0, 1), (.t 23))]⟩,
    ⟨(some 25), none, .buildSl 2 [(.t 24)]⟩,
    ⟨(some 26), none, .build [(.sl true .full 0 []), (.sl true .full 0 [])] [((1, 1), (.t 25))]⟩,
    ⟨(some 27), none, .buildSl 2 [(.t 26)]⟩,
    ⟨(some 28), none, .build [(.sc (.int .i64 (0))), (.sc (.int .i64 (0))), (.sc (.int .i64 (0))), (.sc (.int .i64 (0))), (.sc (.int .i64 (0))), (.sc (.int .i64 (0))), (.sc (.int .i64 (0))), (.sc (.int .i64 (0))), (.sc (.int .i64 (0))), (.sc (.int .i64 (0))), (.sc (.int .i64 (0))), (.sc (.int .i64 (0))), (.sc (.bool false)), (.sc (.int .i64 (0))), (.sc (.int .i64 (0))), (.sc (.int .i64 (0))), (.sc (.int .i64 (0))), (.sc (.int .i64 (0))), (.sc (.int .i64 (0))), (.sc (.string ⟨#[]⟩)), (.sl true .full 0 []), (.sl true .full 0 [])] [((0, 2), (.t 20)), ((2, 8), (.t 21)), ((21, 1), (.t 27))]⟩,
    ⟨(some 29), none, .buildSl 22 [(.t 28)]⟩,
    ⟨(some 30), none, .build [(.sc (.int .i64 (0))), (.sc (.int .i64 (0)))] [((1, 1), (.c (.sc (.int .i64 (4)))))]⟩,
    ⟨(some 31), none, .buildSl 2 [(.t 30)]⟩,
    ⟨(some 32), none, .build [(.sc (.string ⟨#[]⟩)), (.sc (.bool false)), (.sl true .full 0 []), (.sl true .full 0 []), (.sl true .full 0 []), (.sl true .full 0 [])] [((2, 1), (.t 19)), ((3, 1), (.t 29)), ((5, 1), (.t 31))]⟩,
    ⟨none, none, .store 6 (.t 4) (.t 32)⟩])
  (.ret))),
  [.c 4 (some 6)]⟩
theorem ok11 : EntryOk Tryz.prog 11 af11 := ⟨Tryz.f11, _, Tryz.func11, by decide, rfl, by kernel_rfl, by kernel_rfl, rfl⟩
/-- hemiola/unfold.Notes -/
noncomputable def af25 : AF := ⟨101, .seq (.ops [⟨(some 2), none, .box (.t 0)⟩,
    ⟨(some 4), none, .move (.c (.sl true .full 0 []))⟩,
    ⟨(some 5), none, .move (.c (.sc (.int .i64 (0))))⟩])
  (.seq (.ops [⟨(some 17), none, .load (some 6) (.t 2)⟩,
    ⟨(some 18), none, .move (.t 1)⟩,
    ⟨(some 19), none, .call (.c (.fn (.func 28) [] [])) [(.t 17), (.t 18)]⟩,
    ⟨(some 16), none, .move (.t 19)⟩,
    ⟨(some 20), none, .extract 0 (.t 16)⟩,
    ⟨(some 21), none, .extract 1 (.t 16)⟩,
    ⟨(some 6), none, .move (.t 20)⟩,
    ⟨(some 7), none, .move (.t 21)⟩])
  (.seq (.seq (.ops [⟨(some 22), none, .move (.t 7)⟩,
    ⟨(some 23), none, .bin .neq (.t 22) (.c (.sc (.int .i64 (0))))⟩])
  (.cond (.t 23)
   (.seq (.ops [⟨(some 24), none, .move (.t 7)⟩,
     ⟨(some 4), none, .move (.c (.sl true .full 0 []))⟩,
     ⟨(some 5), none, .move (.t 24)⟩])
   (.ret))
   (.skip)))
  (.seq (.ops [⟨(some 26), none, .load (some 6) (.t 2)⟩,
    ⟨(some 27), none, .call (.c (.fn (.func 45) [] [])) [(.t 26)]⟩,
    ⟨(some 25), none, .move (.t 27)⟩,
    ⟨(some 28), none, .extract 0 (.t 25)⟩,
    ⟨(some 29), none, .extract 1 (.t 25)⟩,
    ⟨(some 8), none, .move (.t 28)⟩,
    ⟨(some 7), none, .move (.t 29)⟩])
  (.seq (.seq (.ops [⟨(some 30), none, .move (.t 7)⟩,
    ⟨(some 31), none, .bin .neq (.t 30) (.c (.sc (.int .i64 (0))))⟩])
  (.cond (.t 31)
   (.seq (.ops [⟨(some 32), none, .move (.t 7)⟩,
     ⟨(some 4), none, .move (.c (.sl true .full 0 []))⟩,
     ⟨(some 5), none, .move (.t 32)⟩])
   (.ret))
   (.skip)))
  (.seq (.ops [⟨(some 34), none, .load (some 6) (.t 2)⟩,
    ⟨(some 35), none, .call (.c (.fn (.func 46) [] [])) [(.t 34)]⟩,
    ⟨(some 33), none, .move (.t 35)⟩,
    ⟨(some 36), none, .extract 0 (.t 33)⟩,
    ⟨(some 37), none, .extract 1 (.t 33)⟩,
    ⟨(some 9), none, .move (.t 36)⟩,
    ⟨(some 7), none, .move (.t 37)⟩])
  (.seq (.seq (.ops [⟨(some 38), none, .move (.t 7)⟩,
    ⟨(some 39), none, .bin .neq (.t 38) (.c (.sc (.int .i64 (0))))⟩])
  (.cond (.t 39)
   (.seq (.ops [⟨(some 40), none, .move (.t 7)⟩,
     ⟨(some 4), none, .move (.c (.sl true .full 0 []))⟩,
     ⟨(some 5), none, .move (.t 40)⟩])
   (.ret))
   (.skip)))
  (.seq (.ops [⟨(some 10), none, .move (.c (.sl true .full 0 []))⟩])
  (.seq (.seq (.ops [⟨(some 41), none, .move (.t 1)⟩,
    ⟨(some 42), none, .len (.t 41)⟩,
    ⟨(some 43), none, .move (.c (.sc (.int .i64 (0))))⟩])
  (.block 0 (.loop (.seq (.ops [⟨(some 44), none, .bin .lss (.t 43) (.t 42)⟩])
    (.seq (.cond (.t 44)
     (.skip)
     (.exit 0))
    (.seq (.block 1 (.seq (.ops [⟨(some 45), none, .move (.t 43)⟩,
       ⟨(some 46), none, .iaddrS 2 (.t 41) (.t 43)⟩,
       ⟨(some 47), none, .load (some 2) (.t 46)⟩,
       ⟨(some 12), none, .alloc [(.sc (.int .i64 (0))), (.sc (.int .i64 (0)))]⟩,
       ⟨(some 11), none, .move (.t 45)⟩,
       ⟨none, none, .store 2 (.t 12) (.t 47)⟩])
     (.seq (.ops [⟨(some 48), none, .move (.t 9)⟩,
       ⟨(some 49), none, .len (.t 48)⟩,
       ⟨(some 50), none, .move (.c (.sc (.int .i64 (0))))⟩])
     (.block 2 (.loop (.seq (.ops [⟨(some 51), none, .bin .lss (.t 50) (.t 49)⟩])
       (.seq (.cond (.t 51)
        (.skip)
        (.exit 2))
       (.seq (.block 3 (.seq (.ops [⟨(some 52), none, .iaddrS 9 (.t 48) (.t 50)⟩,
          ⟨(some 53), none, .load (some 9) (.t 52)⟩,
          ⟨(some 14), none, .alloc [(.sc (.int .i64 (0))), (.sc (.int .i64 (0))), (.sc (.int .i64 (0))), (.sc (.int .i64 (0))), (.sc (.int .i64 (0))), (.sc (.int .i64 (0))), (.sc (.int .i64 (0))), (.sc (.int .i64 (0))), (.sc (.int .i64 (0)))]⟩,
          ⟨none, none, .store 9 (.t 14) (.t 53)⟩])
        (.seq (.draw [⟨false, [14], [], ⟨(some 54), none, .faddr 0 (.t 14)⟩⟩,
          ⟨false, [54], [], ⟨(some 55), none, .load none (.t 54)⟩⟩,
          ⟨false, [8], [], ⟨(some 56), none, .move (.t 8)⟩⟩,
          ⟨false, [12], [], ⟨(some 57), none, .faddr 0 (.t 12)⟩⟩,
          ⟨false, [57], [], ⟨(some 58), none, .load none (.t 57)⟩⟩,
          ⟨false, [56, 58], [], ⟨(some 59), none, .iaddrS 1 (.t 56) (.t 58)⟩⟩,
          ⟨false, [59], [], ⟨(some 60), none, .load none (.t 59)⟩⟩,
          ⟨true, [55, 60], [], ⟨(some 61), none, .bin .geq (.t 55) (.t 60)⟩⟩,
          ⟨true, [61], [], ⟨(some 62), none, .move (.t 61)⟩⟩,
          ⟨false, [14, 62], [], ⟨(some 63), (some (62, true)), .faddr 0 (.t 14)⟩⟩,
          ⟨false, [63, 62], [], ⟨(some 64), (some (62, true)), .load none (.t 63)⟩⟩,
          ⟨false, [8, 62], [], ⟨(some 65), (some (62, true)), .move (.t 8)⟩⟩,
          ⟨false, [12, 62], [], ⟨(some 66), (some (62, true)), .faddr 0 (.t 12)⟩⟩,
          ⟨false, [66, 62], [], ⟨(some 67), (some (62, true)), .load none (.t 66)⟩⟩,
          ⟨false, [67, 62], [], ⟨(some 68), (some (62, true)), .bin .add (.t 67) (.c (.sc (.int .i64 (1))))⟩⟩,
          ⟨false, [65, 68, 62], [], ⟨(some 69), (some (62, true)), .iaddrS 1 (.t 65) (.t 68)⟩⟩,
          ⟨false, [69, 62], [], ⟨(some 70), (some (62, true)), .load none (.t 69)⟩⟩]
          [⟨(some 71), (some (62, true)), .bin .lss (.t 64) (.t 70)⟩,
          ⟨(some 72), none, .pick (.t 62) (.t 71) (.c (.sc (.bool false)))⟩])
        (.cond (.t 72)
         (.seq (.draw [⟨false, [6], [], ⟨(some 73), none, .move (.t 6)⟩⟩,
           ⟨false, [11], [], ⟨(some 74), none, .move (.t 11)⟩⟩,
           ⟨false, [73, 74], [], ⟨(some 75), none, .iaddrS 1 (.t 73) (.t 74)⟩⟩,
           ⟨false, [75], [], ⟨(some 76), none, .load none (.t 75)⟩⟩,
           ⟨false, [8], [], ⟨(some 77), none, .move (.t 8)⟩⟩,
           ⟨false, [12], [], ⟨(some 78), none, .faddr 0 (.t 12)⟩⟩,
           ⟨false, [78], [], ⟨(some 79), none, .load none (.t 78)⟩⟩,
           ⟨false, [77, 79], [], ⟨(some 80), none, .iaddrS 1 (.t 77) (.t 79)⟩⟩,
           ⟨false, [80], [], ⟨(some 81), none, .load none (.t 80)⟩⟩]
           [⟨(some 82), none, .bin .sub (.t 76) (.t 81)⟩,
           ⟨(some 15), none, .move (.t 82)⟩])
         (.seq (.ops [⟨(some 83), none, .faddr 0 (.t 14)⟩,
           ⟨(some 84), none, .load none (.t 83)⟩,
           ⟨(some 85), none, .move (.t 15)⟩,
           ⟨(some 86), none, .bin .add (.t 84) (.t 85)⟩,
           ⟨(some 87), none, .faddr 1 (.t 14)⟩,
           ⟨(some 88), none, .load none (.t 87)⟩,
           ⟨(some 89), none, .move (.t 15)⟩,
           ⟨(some 90), none, .bin .add (.t 88) (.t 89)⟩,
           ⟨(some 91), none, .faddr 0 (.t 14)⟩,
           ⟨none, none, .store 1 (.t 91) (.t 86)⟩,
           ⟨(some 92), none, .faddr 1 (.t 14)⟩,
           ⟨none, none, .store 1 (.t 92) (.t 90)⟩])
         (.ops [⟨(some 93), none, .move (.t 10)⟩,
           ⟨(some 94), none, .load (some 9) (.t 14)⟩,
           ⟨(some 95), none, .buildSl 9 [(.t 94)]⟩,
           ⟨(some 96), none, .appendM 9 72 (.t 93) (.t 95)⟩,
           ⟨(some 10), none, .move (.t 96)⟩])))
         (.skip)))))
       (.ops [⟨(some 97), none, .bin .add (.t 50) (.c (.sc (.int .i64 (1))))⟩,
         ⟨(some 50), none, .move (.t 97)⟩])))))))))
    (.ops [⟨(some 98), none, .bin .add (.t 43) (.c (.sc (.int .i64 (1))))⟩,
      ⟨(some 43), none, .move (.t 98)⟩])))))))
  (.seq (.ops [⟨(some 99), none, .move (.t 10)⟩,
    ⟨(some 100), none, .call (.c (.fn (.func 47) [] [])) [(.t 99)]⟩,
    ⟨(some 4), none, .move (.t 100)⟩,
    ⟨(some 5), none, .move (.c (.sc (.int .i64 (0))))⟩])
  (.ret)))))))))),
  [.t 4, .t 5]⟩
theorem ok25 : EntryOk Tryz.prog 25 af25 := ⟨Tryz.f25, _, Tryz.func25, by decide, rfl, by kernel_rfl, by kernel_rfl, rfl⟩
/-- hemiola/ornament.Percents -/
noncomputable def af29 : AF := ⟨29, .seq (.ops [⟨(some 1), none, .box (.t 0)⟩,
    ⟨(some 2), none, .move (.c (.sl true .full 0 []))⟩,
    ⟨(some 3), none, .move (.c (.sc (.int .i64 (0))))⟩])
  (.seq (.seq (.ops [⟨(some 8), none, .load (some 6) (.t 1)⟩,
    ⟨(some 9), none, .call (.c (.fn (.func 23) [] [])) [(.t 8)]⟩,
    ⟨(some 10), none, .un .not (.t 9)⟩])
  (.cond (.t 10)
   (.seq (.ops [⟨(some 2), none, .move (.c (.sl true .full 0 []))⟩,
     ⟨(some 3), none, .move (.c (.sc (.int .i64 (24))))⟩])
   (.ret))
   (.skip)))
  (.seq (.ops [⟨(some 4), none, .move (.c (.sl true .full 0 []))⟩])
  (.seq (.ops [⟨(some 5), none, .move (.c (.sc (.int .i64 (50))))⟩])
  (.seq (.seq (.ops [⟨(some 11), none, .faddr 3 (.t 1)⟩,
    ⟨(some 12), none, .load none (.t 11)⟩,
    ⟨(some 13), none, .len (.t 12)⟩,
    ⟨(some 14), none, .move (.c (.sc (.int .i64 (0))))⟩])
  (.block 0 (.loop (.seq (.ops [⟨(some 15), none, .bin .lss (.t 14) (.t 13)⟩])
    (.seq (.cond (.t 15)
     (.skip)
     (.exit 0))
    (.seq (.block 1 (.seq (.ops [⟨(some 16), none, .iaddrS 22 (.t 12) (.t 14)⟩,
       ⟨(some 17), none, .load (some 22) (.t 16)⟩,
       ⟨(some 7), none, .alloc [(.sc (.int .i64 (0))), (.sc (.int .i64 (0))), (.sc (.int .i64 (0))), (.sc (.int .i64 (0))), (.sc (.int .i64 (0))), (.sc (.int .i64 (0))), (.sc (.int .i64 (0))), (.sc (.int .i64 (0))), (.sc (.int .i64 (0))), (.sc (.int .i64 (0))), (.sc (.int .i64 (0))), (.sc (.int .i64 (0))), (.sc (.bool false)), (.sc (.int .i64 (0))), (.sc (.int .i64 (0))), (.sc (.int .i64 (0))), (.sc (.int .i64 (0))), (.sc (.int .i64 (0))), (.sc (.int .i64 (0))), (.sc (.string ⟨#[]⟩)), (.sl true .full 0 []), (.sl true .full 0 [])]⟩,
       ⟨none, none, .store 22 (.t 7) (.t 17)⟩])
     (.seq (.seq (.ops [⟨(some 18), none, .faddr 17 (.t 7)⟩,
       ⟨(some 19), none, .load none (.t 18)⟩,
       ⟨(some 20), none, .bin .neq (.t 19) (.c (.sc (.int .i64 (0))))⟩])
     (.cond (.t 20)
      (.ops [⟨(some 21), none, .faddr 17 (.t 7)⟩,
        ⟨(some 22), none, .load none (.t 21)⟩,
        ⟨(some 5), none, .move (.t 22)⟩])
      (.skip)))
     (.ops [⟨(some 23), none, .move (.t 4)⟩,
       ⟨(some 24), none, .move (.t 5)⟩,
       ⟨(some 25), none, .buildSl 1 [(.t 24)]⟩,
       ⟨(some 26), none, .append 1 8 (.t 23) (.t 25)⟩,
       ⟨(some 4), none, .move (.t 26)⟩]))))
    (.ops [⟨(some 27), none, .bin .add (.t 14) (.c (.sc (.int .i64 (1))))⟩,
      ⟨(some 14), none, .move (.t 27)⟩])))))))
  (.seq (.ops [⟨(some 28), none, .move (.t 4)⟩,
    ⟨(some 2), none, .move (.t 28)⟩,
    ⟨(some 3), none, .move (.c (.sc (.int .i64 (0))))⟩])
  (.ret)))))),
  [.t 2, .t 3]⟩
theorem ok29 : EntryOk Tryz.prog 29 af29 := ⟨Tryz.f29, _, Tryz.func29, by decide, rfl, by kernel_rfl, by kernel_rfl, rfl⟩
/-- hemiola/perform.levels -/
noncomputable def af33 : AF := ⟨89, .seq (.ops [⟨(some 3), none, .box (.t 0)⟩,
    ⟨(some 6), none, .move (.c (.sc .nilFunc))⟩])
  (.seq (.ops [⟨(some 7), none, .alloc [(.sl true .full 0 [])]⟩])
  (.seq (.seq (.ops [⟨(some 17), none, .move (.t 1)⟩,
    ⟨(some 18), none, .rangeM (.t 17)⟩])
  (.block 0 (.loop (.seq (.ops [⟨(some 19), none, .nextM (.t 18)⟩,
      ⟨(some 20), none, .extract 0 (.t 19)⟩])
    (.seq (.cond (.t 20)
     (.skip)
     (.exit 0))
    (.block 1 (.seq (.ops [⟨(some 21), none, .entryM (.t 18)⟩,
       ⟨(some 22), none, .extract 1 (.t 21)⟩,
       ⟨(some 9), none, .alloc [(.sc (.int .i64 (0))), (.sc (.int .i64 (0))), (.sc (.int .i64 (0))), (.sc (.int .i64 (0))), (.sc (.int .i64 (0))), (.sl true .full 0 []), (.sl true .full 0 []), (.sc (.int .i64 (0))), (.sc (.int .i64 (0))), (.sc (.int .i64 (0))), (.sl true .full 0 []), (.sc (.int .i64 (0))), (.sc (.int .i64 (0))), (.sc (.int .i64 (0))), (.sc (.int .i64 (0))), (.sc (.int .i64 (0))), (.sc (.int .i64 (0))), (.sc (.int .i64 (0)))]⟩,
       ⟨none, none, .store 18 (.t 9) (.t 22)⟩])
     (.seq (.ops [⟨(some 24), none, .faddr 0 (.t 9)⟩,
       ⟨(some 25), none, .faddr 9 (.t 24)⟩,
       ⟨(some 26), none, .load none (.t 25)⟩,
       ⟨(some 27), none, .call (.c (.fn (.func 70) [] [])) [(.t 26)]⟩,
       ⟨(some 23), none, .move (.t 27)⟩,
       ⟨(some 28), none, .extract 0 (.t 23)⟩,
       ⟨(some 29), none, .extract 1 (.t 23)⟩,
       ⟨(some 10), none, .move (.t 28)⟩,
       ⟨(some 11), none, .move (.t 29)⟩])
     (.seq (.ops [⟨(some 30), none, .move (.t 11)⟩,
       ⟨(some 31), none, .move (.t 30)⟩,
       ⟨(some 32), (some (31, true)), .faddr 13 (.t 9)⟩,
       ⟨(some 33), (some (31, true)), .load none (.t 32)⟩,
       ⟨(some 34), (some (31, true)), .move (.t 2)⟩,
       ⟨(some 35), (some (31, true)), .bin .eql (.t 33) (.t 34)⟩,
       ⟨(some 36), none, .pick (.t 31) (.t 35) (.c (.sc (.bool false)))⟩])
     (.cond (.t 36)
      (.ops [⟨(some 37), none, .load none (.t 7)⟩,
        ⟨(some 38), none, .load (some 18) (.t 9)⟩,
        ⟨(some 39), none, .buildSl 18 [(.t 38)]⟩,
        ⟨(some 40), none, .append 18 192 (.t 37) (.t 39)⟩,
        ⟨none, none, .store 1 (.t 7) (.t 40)⟩])
      (.skip)))))))))))
  (.seq (.ops [⟨(some 41), none, .load none (.t 7)⟩,
    ⟨(some 42), none, .call (.c (.fn (.func 71) [] [])) [(.t 41), (.c (.fn (.func 72) [] []))]⟩])
  (.seq (.ops [⟨(some 12), none, .alloc [(.sl true .full 0 [])]⟩])
  (.seq (.seq (.ops [⟨(some 43), none, .faddr 4 (.t 3)⟩,
    ⟨(some 44), none, .load none (.t 43)⟩,
    ⟨(some 45), none, .len (.t 44)⟩,
    ⟨(some 46), none, .move (.c (.sc (.int .i64 (0))))⟩])
  (.block 2 (.loop (.seq (.ops [⟨(some 47), none, .bin .lss (.t 46) (.t 45)⟩])
    (.seq (.cond (.t 47)
     (.skip)
     (.exit 2))
    (.seq (.block 3 (.seq (.ops [⟨(some 48), none, .iaddrS 7 (.t 44) (.t 46)⟩,
       ⟨(some 49), none, .load (some 7) (.t 48)⟩,
       ⟨(some 14), none, .alloc [(.sc (.int .i64 (0))), (.sc (.int .i64 (0))), (.sc (.int .i64 (0))), (.sc (.int .i64 (0))), (.sc (.int .i64 (0))), (.sc (.int .i64 (0))), (.sc (.int .i64 (0)))]⟩,
       ⟨none, none, .store 7 (.t 14) (.t 49)⟩])
     (.seq (.draw [⟨false, [1], [], ⟨(some 50), none, .move (.t 1)⟩⟩,
       ⟨false, [14], [], ⟨(some 51), none, .faddr 3 (.t 14)⟩⟩,
       ⟨false, [51], [7], ⟨(some 52), none, .load (some 2) (.t 51)⟩⟩,
       ⟨false, [50, 52], [], ⟨(some 53), none, .lookup [.i, .i] true (.agg [(.sc (.int .i64 (0))), (.sc (.int .i64 (0))), (.sc (.int .i64 (0))), (.sc (.int .i64 (0))), (.sc (.int .i64 (0))), (.sl true .full 0 []), (.sl true .full 0 []), (.sc (.int .i64 (0))), (.sc (.int .i64 (0))), (.sc (.int .i64 (0))), (.sl true .full 0 []), (.sc (.int .i64 (0))), (.sc (.int .i64 (0))), (.sc (.int .i64 (0))), (.sc (.int .i64 (0))), (.sc (.int .i64 (0))), (.sc (.int .i64 (0))), (.sc (.int .i64 (0)))]) (.t 50) (.t 52) false⟩⟩,
       ⟨false, [1], [], ⟨(some 54), none, .move (.t 1)⟩⟩,
       ⟨false, [14], [], ⟨(some 55), none, .faddr 5 (.t 14)⟩⟩,
       ⟨false, [55], [3, 10], ⟨(some 56), none, .load (some 2) (.t 55)⟩⟩,
       ⟨false, [54, 56], [], ⟨(some 57), none, .lookup [.i, .i] true (.agg [(.sc (.int .i64 (0))), (.sc (.int .i64 (0))), (.sc (.int .i64 (0))), (.sc (.int .i64 (0))), (.sc (.int .i64 (0))), (.sl true .full 0 []), (.sl true .full 0 []), (.sc (.int .i64 (0))), (.sc (.int .i64 (0))), (.sc (.int .i64 (0))), (.sl true .full 0 []), (.sc (.int .i64 (0))), (.sc (.int .i64 (0))), (.sc (.int .i64 (0))), (.sc (.int .i64 (0))), (.sc (.int .i64 (0))), (.sc (.int .i64 (0))), (.sc (.int .i64 (0)))]) (.t 54) (.t 56) false⟩⟩,
       ⟨false, [], [3, 7], ⟨(some 15), none, .alloc [(.sc (.int .i64 (0))), (.sc (.int .i64 (0))), (.sc (.int .i64 (0))), (.sc (.int .i64 (0))), (.sc (.int .i64 (0))), (.sl true .full 0 []), (.sl true .full 0 []), (.sc (.int .i64 (0))), (.sc (.int .i64 (0))), (.sc (.int .i64 (0))), (.sl true .full 0 []), (.sc (.int .i64 (0))), (.sc (.int .i64 (0))), (.sc (.int .i64 (0))), (.sc (.int .i64 (0))), (.sc (.int .i64 (0))), (.sc (.int .i64 (0))), (.sc (.int .i64 (0)))]⟩⟩,
       ⟨false, [], [3, 7], ⟨(some 16), none, .alloc [(.sc (.int .i64 (0))), (.sc (.int .i64 (0))), (.sc (.int .i64 (0))), (.sc (.int .i64 (0))), (.sc (.int .i64 (0))), (.sl true .full 0 []), (.sl true .full 0 []), (.sc (.int .i64 (0))), (.sc (.int .i64 (0))), (.sc (.int .i64 (0))), (.sl true .full 0 []), (.sc (.int .i64 (0))), (.sc (.int .i64 (0))), (.sc (.int .i64 (0))), (.sc (.int .i64 (0))), (.sc (.int .i64 (0))), (.sc (.int .i64 (0))), (.sc (.int .i64 (0)))]⟩⟩,
       ⟨false, [15, 53], [], ⟨none, none, .store 18 (.t 15) (.t 53)⟩⟩]
       [⟨none, none, .store 18 (.t 16) (.t 57)⟩])
     (.seq (.ops [⟨(some 58), none, .faddr 2 (.t 14)⟩,
       ⟨(some 59), none, .load none (.t 58)⟩,
       ⟨(some 60), none, .bin .eql (.t 59) (.c (.sc (.int .i64 (2))))⟩,
       ⟨(some 61), none, .move (.t 60)⟩,
       ⟨(some 62), (some (61, false)), .faddr 2 (.t 14)⟩,
       ⟨(some 63), (some (61, false)), .load none (.t 62)⟩,
       ⟨(some 64), (some (61, false)), .bin .eql (.t 63) (.c (.sc (.int .i64 (3))))⟩,
       ⟨(some 65), none, .pick (.t 61) (.c (.sc (.bool true))) (.t 64)⟩,
       ⟨(some 66), none, .move (.t 65)⟩,
       ⟨(some 67), (some (66, true)), .faddr 13 (.t 15)⟩,
       ⟨(some 68), (some (66, true)), .load none (.t 67)⟩,
       ⟨(some 69), (some (66, true)), .move (.t 2)⟩,
       ⟨(some 70), (some (66, true)), .bin .eql (.t 68) (.t 69)⟩,
       ⟨(some 71), none, .pick (.t 66) (.t 70) (.c (.sc (.bool false)))⟩])
     (.cond (.t 71)
      (.ops [⟨(some 72), none, .load none (.t 12)⟩,
        ⟨(some 73), none, .faddr 16 (.t 15)⟩,
        ⟨(some 74), none, .load none (.t 73)⟩,
        ⟨(some 75), none, .faddr 16 (.t 16)⟩,
        ⟨(some 76), none, .load none (.t 75)⟩,
        ⟨(some 77), none, .faddr 2 (.t 14)⟩,
        ⟨(some 78), none, .load none (.t 77)⟩,
        ⟨(some 79), none, .bin .eql (.t 78) (.c (.sc (.int .i64 (2))))⟩,
        ⟨(some 80), none, .faddr 0 (.t 16)⟩,
        ⟨(some 81), none, .load (some 13) (.t 80)⟩,
        ⟨(some 82), none, .build [(.sc (.int .i64 (0))), (.sc (.int .i64 (0))), (.sc (.bool false)), (.sc (.int .i64 (0))), (.sc (.int .i64 (0))), (.sc (.int .i64 (0))), (.sc (.int .i64 (0))), (.sc (.int .i64 (0))), (.sl true .full 0 []), (.sl true .full 0 []), (.sc (.int .i64 (0))), (.sc (.int .i64 (0))), (.sc (.int .i64 (0))), (.sl true .full 0 []), (.sc (.int .i64 (0))), (.sc (.int .i64 (0)))] [((0, 1), (.t 74)), ((1, 1), (.t 76)), ((2, 1), (.t 79)), ((3, 13), (.t 81))]⟩,
        ⟨(some 83), none, .buildSl 16 [(.t 82)]⟩,
        ⟨(some 84), none, .append 16 176 (.t 72) (.t 83)⟩,
        ⟨none, none, .store 1 (.t 12) (.t 84)⟩])
      (.skip))))))
    (.ops [⟨(some 85), none, .bin .add (.t 46) (.c (.sc (.int .i64 (1))))⟩,
      ⟨(some 46), none, .move (.t 85)⟩])))))))
  (.seq (.ops [⟨(some 86), none, .load none (.t 12)⟩,
    ⟨(some 87), none, .call (.c (.fn (.func 75) [] [])) [(.t 86), (.c (.fn (.func 76) [] []))]⟩])
  (.seq (.ops [⟨(some 88), none, .mkFn (.func 77) [] [(.t 7), (.t 12)]⟩,
    ⟨(some 6), none, .move (.t 88)⟩])
  (.ret)))))))),
  [.t 6]⟩
theorem ok33 : EntryOk Tryz.prog 33 af33 := ⟨Tryz.f33, _, Tryz.func33, by decide, rfl, by kernel_rfl, by kernel_rfl, rfl⟩
/-- hemiola/timeline.Notes -/
noncomputable def af46 : AF := ⟨73, .seq (.ops [⟨(some 1), none, .box (.t 0)⟩,
    ⟨(some 2), none, .move (.c (.sl true .full 0 []))⟩,
    ⟨(some 3), none, .move (.c (.sc (.int .i64 (0))))⟩])
  (.seq (.seq (.ops [⟨(some 15), none, .load (some 6) (.t 1)⟩,
    ⟨(some 16), none, .call (.c (.fn (.func 23) [] [])) [(.t 15)]⟩,
    ⟨(some 17), none, .un .not (.t 16)⟩])
  (.cond (.t 17)
   (.seq (.ops [⟨(some 2), none, .move (.c (.sl true .full 0 []))⟩,
     ⟨(some 3), none, .move (.c (.sc (.int .i64 (24))))⟩])
   (.ret))
   (.skip)))
  (.seq (.ops [⟨(some 4), none, .alloc [(.sl true .full 0 [])]⟩])
  (.seq (.ops [⟨(some 18), none, .load (some 6) (.t 1)⟩,
    ⟨(some 19), none, .call (.c (.fn (.func 113) [] [])) [(.t 18)]⟩,
    ⟨(some 5), none, .move (.t 19)⟩])
  (.seq (.seq (.ops [⟨(some 20), none, .load (some 6) (.t 1)⟩,
    ⟨(some 21), none, .call (.c (.fn (.func 114) [] [])) [(.t 20)]⟩,
    ⟨(some 22), none, .move (.c (.sc (.int .i64 (0))))⟩])
  (.block 0 (.loop (.seq (.ops [⟨(some 23), none, .bin .lss (.t 22) (.t 21)⟩])
    (.seq (.cond (.t 23)
     (.skip)
     (.exit 0))
    (.seq (.block 1 (.seq (.ops [⟨(some 24), none, .move (.t 22)⟩,
       ⟨(some 6), none, .move (.t 24)⟩])
     (.seq (.ops [⟨(some 26), none, .load (some 6) (.t 1)⟩,
       ⟨(some 27), none, .move (.t 6)⟩,
       ⟨(some 28), none, .call (.c (.fn (.func 115) [] [])) [(.t 26), (.t 27)]⟩,
       ⟨(some 25), none, .move (.t 28)⟩,
       ⟨(some 29), none, .extract 0 (.t 25)⟩,
       ⟨(some 30), none, .extract 1 (.t 25)⟩,
       ⟨(some 31), none, .extract 2 (.t 25)⟩,
       ⟨(some 7), none, .move (.t 29)⟩,
       ⟨(some 8), none, .move (.t 30)⟩,
       ⟨(some 9), none, .move (.t 31)⟩])
     (.seq (.ops [⟨(some 10), none, .move (.c (.sc (.int .i64 (0))))⟩])
     (.seq (.seq (.ops [⟨(some 32), none, .faddr 1 (.t 1)⟩,
       ⟨(some 33), none, .load none (.t 32)⟩])
     (.cond (.t 33)
      (.ops [⟨(some 34), none, .faddr 2 (.t 1)⟩,
        ⟨(some 35), none, .load none (.t 34)⟩,
        ⟨(some 36), none, .move (.t 7)⟩,
        ⟨(some 37), none, .iaddrS 6 (.t 35) (.t 36)⟩,
        ⟨(some 38), none, .faddr 3 (.t 37)⟩,
        ⟨(some 39), none, .faddr 1 (.t 38)⟩,
        ⟨(some 40), none, .load none (.t 39)⟩,
        ⟨(some 10), none, .move (.t 40)⟩])
      (.skip)))
     (.seq (.ops [⟨(some 41), none, .move (.c (.sc (.int .i64 (0))))⟩])
     (.block 2 (.loop (.seq (.ops [⟨(some 42), none, .bin .lss (.t 41) (.c (.sc (.int .i64 (2))))⟩])
       (.seq (.cond (.t 42)
        (.skip)
        (.exit 2))
       (.seq (.block 3 (.seq (.ops [⟨(some 43), none, .move (.t 41)⟩,
          ⟨(some 11), none, .move (.t 43)⟩])
        (.seq (.ops [⟨(some 44), none, .move (.t 7)⟩,
          ⟨(some 45), none, .move (.t 8)⟩,
          ⟨(some 46), none, .move (.t 11)⟩,
          ⟨(some 47), none, .build [(.sc (.int .i64 (0))), (.sc (.int .i64 (0))), (.sc (.int .i64 (0))), (.sc (.int .i64 (0))), (.sc (.int .i64 (0))), (.sc (.int .i64 (0))), (.sc (.int .i64 (0))), (.sc (.int .i64 (0))), (.sc (.int .i64 (0)))] [((3, 1), (.t 44)), ((4, 1), (.t 45)), ((5, 1), (.t 46))]⟩,
          ⟨(some 48), none, .move (.t 10)⟩,
          ⟨(some 49), none, .build [(.sc (.pointer none)), (.sc (.map none)), (.sc (.int .i64 (0))), (.sc (.int .i64 (0))), (.sc (.int .i64 (0))), (.sc (.int .i64 (0))), (.sc (.int .i64 (0))), (.sc (.int .i64 (0))), (.sc (.int .i64 (0))), (.sc (.int .i64 (0))), (.sc (.int .i64 (0))), (.sc (.int .i64 (0)))] [((0, 1), (.t 4)), ((2, 9), (.t 47)), ((11, 1), (.t 48))]⟩,
          ⟨(some 50), none, .box (.t 49)⟩,
          ⟨(some 12), none, .move (.t 50)⟩])
        (.seq (.ops [⟨(some 51), none, .faddr 3 (.t 1)⟩,
          ⟨(some 52), none, .load none (.t 51)⟩,
          ⟨(some 53), none, .len (.t 52)⟩,
          ⟨(some 54), none, .move (.c (.sc (.int .i64 (0))))⟩])
        (.block 4 (.loop (.seq (.ops [⟨(some 55), none, .bin .lss (.t 54) (.t 53)⟩])
          (.seq (.cond (.t 55)
           (.skip)
           (.exit 4))
          (.seq (.block 5 (.seq (.ops [⟨(some 56), none, .move (.t 54)⟩,
             ⟨(some 57), none, .iaddrS 22 (.t 52) (.t 54)⟩,
             ⟨(some 58), none, .load (some 22) (.t 57)⟩,
             ⟨(some 14), none, .alloc [(.sc (.int .i64 (0))), (.sc (.int .i64 (0))), (.sc (.int .i64 (0))), (.sc (.int .i64 (0))), (.sc (.int .i64 (0))), (.sc (.int .i64 (0))), (.sc (.int .i64 (0))), (.sc (.int .i64 (0))), (.sc (.int .i64 (0))), (.sc (.int .i64 (0))), (.sc (.int .i64 (0))), (.sc (.int .i64 (0))), (.sc (.bool false)), (.sc (.int .i64 (0))), (.sc (.int .i64 (0))), (.sc (.int .i64 (0))), (.sc (.int .i64 (0))), (.sc (.int .i64 (0))), (.sc (.int .i64 (0))), (.sc (.string ⟨#[]⟩)), (.sl true .full 0 []), (.sl true .full 0 [])]⟩,
             ⟨(some 13), none, .move (.t 56)⟩,
             ⟨none, none, .store 22 (.t 14) (.t 58)⟩])
           (.draw [⟨false, [12], [], ⟨(some 59), none, .move (.t 12)⟩⟩,
             ⟨false, [14], [], ⟨(some 60), none, .load (some 22) (.t 14)⟩⟩,
             ⟨false, [5], [], ⟨(some 61), none, .move (.t 5)⟩⟩,
             ⟨false, [13], [], ⟨(some 62), none, .move (.t 13)⟩⟩,
             ⟨false, [61, 62], [], ⟨(some 63), none, .iaddrS 1 (.t 61) (.t 62)⟩⟩,
             ⟨false, [63], [], ⟨(some 64), none, .load none (.t 63)⟩⟩,
             ⟨false, [6], [], ⟨(some 65), none, .move (.t 6)⟩⟩,
             ⟨false, [11], [], ⟨(some 66), none, .move (.t 11)⟩⟩]
             [⟨(some 67), none, .call (.c (.fn (.func 116) [] [])) [(.t 59), (.t 60), (.t 64), (.t 65), (.t 66)]⟩])))
          (.ops [⟨(some 68), none, .bin .add (.t 54) (.c (.sc (.int .i64 (1))))⟩,
            ⟨(some 54), none, .move (.t 68)⟩]))))))))))
       (.ops [⟨(some 69), none, .bin .add (.t 41) (.c (.sc (.int .i64 (1))))⟩,
         ⟨(some 41), none, .move (.t 69)⟩]))))))))))))
    (.ops [⟨(some 70), none, .bin .add (.t 22) (.c (.sc (.int .i64 (1))))⟩,
      ⟨(some 22), none, .move (.t 70)⟩])))))))
  (.seq (.ops [⟨(some 71), none, .load none (.t 4)⟩,
    ⟨(some 72), none, .call (.c (.fn (.func 47) [] [])) [(.t 71)]⟩,
    ⟨(some 2), none, .move (.t 72)⟩,
    ⟨(some 3), none, .move (.c (.sc (.int .i64 (0))))⟩])
  (.ret)))))),
  [.t 2, .t 3]⟩
theorem ok46 : EntryOk Tryz.prog 46 af46 := ⟨Tryz.f46, _, Tryz.func46, by decide, rfl, by kernel_rfl, by kernel_rfl, rfl⟩
/-- hemiola/tempo.marks -/
noncomputable def af50 : AF := ⟨52, .seq (.ops [⟨(some 1), none, .box (.t 0)⟩,
    ⟨(some 2), none, .move (.c (.sl true .full 0 []))⟩,
    ⟨(some 3), none, .move (.c (.sl true .full 0 []))⟩])
  (.seq (.ops [⟨(some 12), none, .load (some 6) (.t 1)⟩,
    ⟨(some 13), none, .call (.c (.fn (.func 45) [] [])) [(.t 12)]⟩,
    ⟨(some 11), none, .move (.t 13)⟩,
    ⟨(some 14), none, .extract 0 (.t 11)⟩,
    ⟨(some 15), none, .extract 1 (.t 11)⟩,
    ⟨(some 4), none, .move (.t 14)⟩,
    ⟨(some 5), none, .move (.t 15)⟩])
  (.seq (.ops [⟨(some 16), none, .build [(.sc (.int .i64 (0))), (.sc (.int .i64 (0))), (.sc (.bool false))] [((0, 1), (.c (.sc (.int .i64 (-1))))), ((1, 1), (.c (.sc (.int .i64 (500000)))))]⟩,
    ⟨(some 17), none, .buildSl 3 [(.t 16)]⟩,
    ⟨(some 6), none, .move (.t 17)⟩])
  (.seq (.seq (.ops [⟨(some 18), none, .faddr 3 (.t 1)⟩,
    ⟨(some 19), none, .load none (.t 18)⟩,
    ⟨(some 20), none, .len (.t 19)⟩,
    ⟨(some 21), none, .move (.c (.sc (.int .i64 (0))))⟩])
  (.block 0 (.loop (.seq (.ops [⟨(some 22), none, .bin .lss (.t 21) (.t 20)⟩])
    (.seq (.cond (.t 22)
     (.skip)
     (.exit 0))
    (.seq (.block 1 (.seq (.ops [⟨(some 23), none, .move (.t 21)⟩,
       ⟨(some 24), none, .iaddrS 22 (.t 19) (.t 21)⟩,
       ⟨(some 25), none, .load (some 22) (.t 24)⟩,
       ⟨(some 8), none, .alloc [(.sc (.int .i64 (0))), (.sc (.int .i64 (0))), (.sc (.int .i64 (0))), (.sc (.int .i64 (0))), (.sc (.int .i64 (0))), (.sc (.int .i64 (0))), (.sc (.int .i64 (0))), (.sc (.int .i64 (0))), (.sc (.int .i64 (0))), (.sc (.int .i64 (0))), (.sc (.int .i64 (0))), (.sc (.int .i64 (0))), (.sc (.bool false)), (.sc (.int .i64 (0))), (.sc (.int .i64 (0))), (.sc (.int .i64 (0))), (.sc (.int .i64 (0))), (.sc (.int .i64 (0))), (.sc (.int .i64 (0))), (.sc (.string ⟨#[]⟩)), (.sl true .full 0 []), (.sl true .full 0 [])]⟩,
       ⟨(some 7), none, .move (.t 23)⟩,
       ⟨none, none, .store 22 (.t 8) (.t 25)⟩])
     (.seq (.ops [⟨(some 26), none, .faddr 20 (.t 8)⟩,
       ⟨(some 27), none, .load none (.t 26)⟩,
       ⟨(some 28), none, .len (.t 27)⟩,
       ⟨(some 29), none, .move (.c (.sc (.int .i64 (0))))⟩])
     (.block 2 (.loop (.seq (.ops [⟨(some 30), none, .bin .lss (.t 29) (.t 28)⟩])
       (.seq (.cond (.t 30)
        (.skip)
        (.exit 2))
       (.seq (.block 3 (.seq (.ops [⟨(some 31), none, .iaddrS 3 (.t 27) (.t 29)⟩,
          ⟨(some 32), none, .load (some 3) (.t 31)⟩,
          ⟨(some 10), none, .alloc [(.sc (.int .i64 (0))), (.sc (.int .i64 (0))), (.sc (.bool false))]⟩,
          ⟨none, none, .store 3 (.t 10) (.t 32)⟩])
        (.draw [⟨false, [6], [], ⟨(some 33), none, .move (.t 6)⟩⟩,
          ⟨false, [4], [], ⟨(some 34), none, .move (.t 4)⟩⟩,
          ⟨false, [7], [], ⟨(some 35), none, .move (.t 7)⟩⟩,
          ⟨false, [34, 35], [], ⟨(some 36), none, .iaddrS 1 (.t 34) (.t 35)⟩⟩,
          ⟨false, [36], [], ⟨(some 37), none, .load none (.t 36)⟩⟩,
          ⟨false, [10], [], ⟨(some 38), none, .faddr 0 (.t 10)⟩⟩,
          ⟨false, [38], [], ⟨(some 39), none, .load none (.t 38)⟩⟩,
          ⟨false, [37, 39], [], ⟨(some 40), none, .bin .add (.t 37) (.t 39)⟩⟩,
          ⟨false, [10], [], ⟨(some 41), none, .faddr 1 (.t 10)⟩⟩,
          ⟨false, [41], [], ⟨(some 42), none, .load none (.t 41)⟩⟩,
          ⟨false, [10], [], ⟨(some 43), none, .faddr 2 (.t 10)⟩⟩,
          ⟨false, [43], [], ⟨(some 44), none, .load none (.t 43)⟩⟩,
          ⟨true, [40, 42, 44], [], ⟨(some 45), none, .build [(.sc (.int .i64 (0))), (.sc (.int .i64 (0))), (.sc (.bool false))] [((0, 1), (.t 40)), ((1, 1), (.t 42)), ((2, 1), (.t 44))]⟩⟩,
          ⟨true, [45], [], ⟨(some 46), none, .buildSl 3 [(.t 45)]⟩⟩]
          [⟨(some 47), none, .append 3 24 (.t 33) (.t 46)⟩,
          ⟨(some 6), none, .move (.t 47)⟩])))
       (.ops [⟨(some 48), none, .bin .add (.t 29) (.c (.sc (.int .i64 (1))))⟩,
         ⟨(some 29), none, .move (.t 48)⟩])))))))))
    (.ops [⟨(some 49), none, .bin .add (.t 21) (.c (.sc (.int .i64 (1))))⟩,
      ⟨(some 21), none, .move (.t 49)⟩])))))))
  (.seq (.ops [⟨(some 50), none, .move (.t 6)⟩,
    ⟨(some 51), none, .move (.t 4)⟩,
    ⟨(some 2), none, .move (.t 50)⟩,
    ⟨(some 3), none, .move (.t 51)⟩])
  (.ret))))),
  [.t 2, .t 3]⟩
theorem ok50 : EntryOk Tryz.prog 50 af50 := ⟨Tryz.f50, _, Tryz.func50, by decide, rfl, by kernel_rfl, by kernel_rfl, rfl⟩
/-- hemiola/tempo.timed -/
noncomputable def af54 : AF := ⟨39, .seq (.ops [⟨(some 2), none, .move (.c (.sc (.pointer none)))⟩])
  (.seq (.ops [⟨(some 7), none, .move (.t 0)⟩,
    ⟨(some 8), none, .call (.c (.fn (.func 122) [] [])) [(.t 7)]⟩,
    ⟨(some 9), none, .build [(.sl true .full 0 []), (.sl true .full 0 [])] [((0, 1), (.t 8))]⟩,
    ⟨(some 10), none, .box (.t 9)⟩,
    ⟨(some 3), none, .move (.t 10)⟩])
  (.seq (.ops [⟨(some 4), none, .move (.c (.sc (.int .i64 (0))))⟩])
  (.seq (.seq (.ops [⟨(some 11), none, .move (.t 3)⟩,
    ⟨(some 12), none, .nilCheck (.t 11)⟩,
    ⟨(some 13), none, .faddr 0 (.t 12)⟩,
    ⟨(some 14), none, .load none (.t 13)⟩,
    ⟨(some 15), none, .len (.t 14)⟩,
    ⟨(some 16), none, .move (.c (.sc (.int .i64 (0))))⟩])
  (.block 0 (.loop (.seq (.ops [⟨(some 17), none, .bin .lss (.t 16) (.t 15)⟩])
    (.seq (.cond (.t 17)
     (.skip)
     (.exit 0))
    (.seq (.block 1 (.seq (.ops [⟨(some 18), none, .move (.t 16)⟩,
       ⟨(some 5), none, .move (.t 18)⟩])
     (.seq (.ops [⟨(some 19), none, .move (.t 3)⟩,
       ⟨(some 20), none, .nilCheck (.t 19)⟩,
       ⟨(some 21), none, .faddr 0 (.t 20)⟩,
       ⟨(some 22), none, .load none (.t 21)⟩,
       ⟨(some 23), none, .move (.t 5)⟩,
       ⟨(some 24), none, .iaddrS 5 (.t 22) (.t 23)⟩,
       ⟨(some 6), none, .move (.t 24)⟩])
     (.seq (.ops [⟨(some 25), none, .move (.t 6)⟩,
       ⟨(some 26), none, .move (.t 4)⟩,
       ⟨(some 27), none, .nilCheck (.t 25)⟩,
       ⟨(some 28), none, .faddr 4 (.t 27)⟩,
       ⟨none, none, .store 1 (.t 28) (.t 26)⟩])
     (.draw [⟨false, [6], [], ⟨(some 29), none, .move (.t 6)⟩⟩,
       ⟨false, [29], [], ⟨(some 30), none, .nilCheck (.t 29)⟩⟩,
       ⟨false, [30], [], ⟨(some 31), none, .load (some 5) (.t 30)⟩⟩,
       ⟨false, [6], [], ⟨(some 32), none, .move (.t 6)⟩⟩,
       ⟨false, [32], [], ⟨(some 33), none, .nilCheck (.t 32)⟩⟩,
       ⟨false, [33], [], ⟨(some 34), none, .faddr 1 (.t 33)⟩⟩,
       ⟨false, [34], [], ⟨(some 35), none, .load none (.t 34)⟩⟩]
       [⟨(some 36), none, .call (.c (.fn (.func 123) [] [])) [(.t 31), (.t 35)]⟩,
       ⟨(some 4), none, .move (.t 36)⟩])))))
    (.ops [⟨(some 37), none, .bin .add (.t 16) (.c (.sc (.int .i64 (1))))⟩,
      ⟨(some 16), none, .move (.t 37)⟩])))))))
  (.seq (.ops [⟨(some 38), none, .move (.t 3)⟩,
    ⟨(some 2), none, .move (.t 38)⟩])
  (.ret))))),
  [.t 2]⟩
theorem ok54 : EntryOk Tryz.prog 54 af54 := ⟨Tryz.f54, _, Tryz.func54, by decide, rfl, by kernel_rfl, by kernel_rfl, rfl⟩
/-- hemiola/unfold.proper -/
noncomputable def af58 : AF := ⟨45, .seq (.ops [⟨(some 2), none, .box (.t 0)⟩,
    ⟨(some 4), none, .move (.c (.sc (.int .i64 (0))))⟩])
  (.seq (.seq (.ops [⟨(some 8), none, .load (some 6) (.t 2)⟩,
    ⟨(some 9), none, .call (.c (.fn (.func 23) [] [])) [(.t 8)]⟩,
    ⟨(some 10), none, .un .not (.t 9)⟩])
  (.cond (.t 10)
   (.seq (.ops [⟨(some 4), none, .move (.c (.sc (.int .i64 (24))))⟩])
   (.ret))
   (.skip)))
  (.seq (.seq (.ops [⟨(some 11), none, .move (.t 1)⟩,
    ⟨(some 12), none, .len (.t 11)⟩,
    ⟨(some 13), none, .bin .gtr (.t 12) (.c (.sc (.int .i64 (8192))))⟩])
  (.cond (.t 13)
   (.seq (.ops [⟨(some 4), none, .move (.c (.sc (.int .i64 (9))))⟩])
   (.ret))
   (.skip)))
  (.seq (.ops [⟨(some 14), none, .mkMap⟩,
    ⟨(some 5), none, .move (.t 14)⟩])
  (.seq (.seq (.ops [⟨(some 15), none, .move (.t 1)⟩,
    ⟨(some 16), none, .len (.t 15)⟩,
    ⟨(some 17), none, .move (.c (.sc (.int .i64 (0))))⟩])
  (.block 0 (.loop (.seq (.ops [⟨(some 18), none, .bin .lss (.t 17) (.t 16)⟩])
    (.seq (.cond (.t 18)
     (.skip)
     (.exit 0))
    (.seq (.block 1 (.seq (.ops [⟨(some 19), none, .iaddrS 2 (.t 15) (.t 17)⟩,
       ⟨(some 20), none, .load (some 2) (.t 19)⟩,
       ⟨(some 7), none, .alloc [(.sc (.int .i64 (0))), (.sc (.int .i64 (0)))]⟩,
       ⟨none, none, .store 2 (.t 7) (.t 20)⟩])
     (.seq (.seq (.ops [⟨(some 21), none, .faddr 0 (.t 7)⟩,
       ⟨(some 22), none, .load none (.t 21)⟩,
       ⟨(some 23), none, .bin .lss (.t 22) (.c (.sc (.int .i64 (0))))⟩,
       ⟨(some 24), none, .move (.t 23)⟩,
       ⟨(some 25), (some (24, false)), .faddr 0 (.t 7)⟩,
       ⟨(some 26), (some (24, false)), .load none (.t 25)⟩,
       ⟨(some 27), (some (24, false)), .faddr 3 (.t 2)⟩,
       ⟨(some 28), (some (24, false)), .load none (.t 27)⟩,
       ⟨(some 29), (some (24, false)), .len (.t 28)⟩,
       ⟨(some 30), (some (24, false)), .bin .geq (.t 26) (.t 29)⟩,
       ⟨(some 31), none, .pick (.t 24) (.c (.sc (.bool true))) (.t 30)⟩])
     (.cond (.t 31)
      (.seq (.ops [⟨(some 4), none, .move (.c (.sc (.int .i64 (2))))⟩])
      (.ret))
      (.skip)))
     (.seq (.seq (.ops [⟨(some 32), none, .faddr 1 (.t 7)⟩,
       ⟨(some 33), none, .load none (.t 32)⟩,
       ⟨(some 34), none, .move (.t 5)⟩,
       ⟨(some 35), none, .faddr 0 (.t 7)⟩,
       ⟨(some 36), none, .load none (.t 35)⟩,
       ⟨(some 37), none, .lookup [.i] false (.sc (.int .i64 (0))) (.t 34) (.t 36) false⟩,
       ⟨(some 38), none, .bin .neq (.t 33) (.t 37)⟩])
     (.cond (.t 38)
      (.seq (.ops [⟨(some 4), none, .move (.c (.sc (.int .i64 (38))))⟩])
      (.ret))
      (.skip)))
     (.ops [⟨(some 39), none, .move (.t 5)⟩,
       ⟨(some 40), none, .faddr 0 (.t 7)⟩,
       ⟨(some 41), none, .load none (.t 40)⟩,
       ⟨(some 42), none, .lookup [.i] false (.sc (.int .i64 (0))) (.t 39) (.t 41) false⟩,
       ⟨(some 43), none, .bin .add (.t 42) (.c (.sc (.int .i64 (1))))⟩,
       ⟨none, none, .mapUp [.i] false (.t 39) (.t 41) (.t 43)⟩])))))
    (.ops [⟨(some 44), none, .bin .add (.t 17) (.c (.sc (.int .i64 (1))))⟩,
      ⟨(some 17), none, .move (.t 44)⟩])))))))
  (.seq (.ops [⟨(some 4), none, .move (.c (.sc (.int .i64 (0))))⟩])
  (.ret)))))),
  [.t 4]⟩
theorem ok58 : EntryOk Tryz.prog 58 af58 := ⟨Tryz.f58, _, Tryz.func58, by decide, rfl, by kernel_rfl, by kernel_rfl, rfl⟩
/-- hemiola/ornament.Graces -/
noncomputable def af62 : AF := ⟨116, .seq (.ops [⟨(some 4), none, .box (.t 1)⟩,
    ⟨(some 6), none, .move (.c (.sl true .full 0 []))⟩,
    ⟨(some 7), none, .move (.c (.sc (.int .i64 (0))))⟩,
    ⟨(some 8), none, .move (.c (.sc (.int .i64 (0))))⟩])
  (.seq (.seq (.ops [⟨(some 20), none, .move (.t 0)⟩,
    ⟨(some 21), none, .len (.t 20)⟩,
    ⟨(some 22), none, .bin .gtr (.t 21) (.c (.sc (.int .i64 (8))))⟩])
  (.cond (.t 22)
   (.seq (.ops [⟨(some 6), none, .move (.c (.sl true .full 0 []))⟩,
     ⟨(some 7), none, .move (.c (.sc (.int .i64 (0))))⟩,
     ⟨(some 8), none, .move (.c (.sc (.int .i64 (9))))⟩])
   (.ret))
   (.skip)))
  (.seq (.seq (.ops [⟨(some 23), none, .move (.t 0)⟩,
    ⟨(some 24), none, .call (.c (.fn (.func 133) [] [])) [(.t 23)]⟩,
    ⟨(some 9), none, .move (.t 24)⟩])
  (.seq (.ops [⟨(some 25), none, .move (.t 9)⟩,
    ⟨(some 26), none, .bin .neq (.t 25) (.c (.sc (.int .i64 (0))))⟩])
  (.cond (.t 26)
   (.seq (.ops [⟨(some 27), none, .move (.t 9)⟩,
     ⟨(some 6), none, .move (.c (.sl true .full 0 []))⟩,
     ⟨(some 7), none, .move (.c (.sc (.int .i64 (0))))⟩,
     ⟨(some 8), none, .move (.t 27)⟩])
   (.ret))
   (.skip))))
  (.seq (.ops [⟨(some 29), none, .load (some 3) (.t 4)⟩,
    ⟨(some 30), none, .call (.c (.fn (.func 134) [] [])) [(.t 29)]⟩,
    ⟨(some 28), none, .move (.t 30)⟩,
    ⟨(some 31), none, .extract 0 (.t 28)⟩,
    ⟨(some 32), none, .extract 1 (.t 28)⟩,
    ⟨(some 10), none, .move (.t 31)⟩,
    ⟨(some 8), none, .move (.t 32)⟩])
  (.seq (.block 0 (.seq (.ops [⟨(some 34), none, .move (.t 8)⟩,
     ⟨(some 35), none, .bin .neq (.t 34) (.c (.sc (.int .i64 (0))))⟩,
     ⟨(some 33), none, .move (.t 35)⟩])
   (.cond (.t 33)
    (.seq (.ops [⟨(some 36), none, .move (.t 8)⟩,
      ⟨(some 6), none, .move (.c (.sl true .full 0 []))⟩,
      ⟨(some 7), none, .move (.c (.sc (.int .i64 (0))))⟩,
      ⟨(some 8), none, .move (.t 36)⟩])
    (.ret))
    (.seq (.ops [⟨(some 38), none, .move (.t 2)⟩,
      ⟨(some 39), none, .bin .lss (.t 38) (.c (.sc (.int .i64 (1))))⟩,
      ⟨(some 40), none, .move (.t 39)⟩,
      ⟨(some 41), (some (40, false)), .move (.t 2)⟩,
      ⟨(some 42), (some (40, false)), .bin .gtr (.t 41) (.c (.sc (.int .i64 (4398046511104))))⟩,
      ⟨(some 43), none, .pick (.t 40) (.c (.sc (.bool true))) (.t 42)⟩,
      ⟨(some 37), none, .move (.t 43)⟩])
    (.cond (.t 37)
     (.seq (.ops [⟨(some 6), none, .move (.c (.sl true .full 0 []))⟩,
       ⟨(some 7), none, .move (.c (.sc (.int .i64 (0))))⟩,
       ⟨(some 8), none, .move (.c (.sc (.int .i64 (2))))⟩])
     (.ret))
     (.skip))))))
  (.seq (.ops [⟨(some 44), none, .buildSl 1 [(.c (.sc (.int .i64 (0))))]⟩,
    ⟨(some 11), none, .move (.t 44)⟩])
  (.seq (.seq (.ops [⟨(some 45), none, .move (.t 0)⟩,
    ⟨(some 46), none, .len (.t 45)⟩,
    ⟨(some 47), none, .move (.c (.sc (.int .i64 (0))))⟩])
  (.block 1 (.loop (.seq (.ops [⟨(some 48), none, .bin .lss (.t 47) (.t 46)⟩])
    (.seq (.cond (.t 48)
     (.skip)
     (.exit 1))
    (.seq (.block 2 (.seq (.ops [⟨(some 49), none, .move (.t 47)⟩,
       ⟨(some 50), none, .iaddrS 5 (.t 45) (.t 47)⟩,
       ⟨(some 51), none, .load (some 5) (.t 50)⟩,
       ⟨(some 13), none, .alloc [(.sc (.int .i64 (0))), (.sc (.int .i64 (0))), (.sc (.int .i64 (0))), (.sc (.int .i64 (0))), (.sc (.bool false))]⟩,
       ⟨(some 12), none, .move (.t 49)⟩,
       ⟨none, none, .store 5 (.t 13) (.t 51)⟩])
     (.seq (.ops [⟨(some 52), none, .faddr 3 (.t 13)⟩,
       ⟨(some 53), none, .load none (.t 52)⟩,
       ⟨(some 54), none, .bin .shr (.c (.sc (.int .i64 (1935360)))) (.t 53)⟩,
       ⟨(some 14), none, .move (.t 54)⟩])
     (.seq (.seq (.ops [⟨(some 55), none, .faddr 4 (.t 13)⟩,
       ⟨(some 56), none, .load none (.t 55)⟩])
     (.cond (.t 56)
      (.ops [⟨(some 14), none, .move (.c (.sc (.int .i64 (30240))))⟩])
      (.skip)))
     (.ops [⟨(some 57), none, .move (.t 11)⟩,
       ⟨(some 58), none, .move (.t 11)⟩,
       ⟨(some 59), none, .move (.t 12)⟩,
       ⟨(some 60), none, .iaddrS 1 (.t 58) (.t 59)⟩,
       ⟨(some 61), none, .load none (.t 60)⟩,
       ⟨(some 62), none, .move (.t 14)⟩,
       ⟨(some 63), none, .bin .add (.t 61) (.t 62)⟩,
       ⟨(some 64), none, .buildSl 1 [(.t 63)]⟩,
       ⟨(some 65), none, .append 1 8 (.t 57) (.t 64)⟩,
       ⟨(some 11), none, .move (.t 65)⟩])))))
    (.ops [⟨(some 66), none, .bin .add (.t 47) (.c (.sc (.int .i64 (1))))⟩,
      ⟨(some 47), none, .move (.t 66)⟩])))))))
  (.seq (.ops [⟨(some 67), none, .move (.t 11)⟩,
    ⟨(some 68), none, .move (.t 0)⟩,
    ⟨(some 69), none, .len (.t 68)⟩,
    ⟨(some 70), none, .iaddrS 1 (.t 67) (.t 69)⟩,
    ⟨(some 71), none, .load none (.t 70)⟩,
    ⟨(some 15), none, .move (.t 71)⟩])
  (.seq (.ops [⟨(some 72), none, .move (.t 15)⟩,
    ⟨(some 73), none, .move (.t 2)⟩,
    ⟨(some 74), none, .bin .quo (.t 73) (.c (.sc (.int .i64 (2))))⟩,
    ⟨(some 75), none, .mm false [(.t 72), (.t 74)]⟩,
    ⟨(some 7), none, .move (.t 75)⟩])
  (.seq (.seq (.ops [⟨(some 76), none, .move (.t 0)⟩,
    ⟨(some 77), none, .len (.t 76)⟩,
    ⟨(some 78), none, .move (.c (.sc (.int .i64 (0))))⟩])
  (.block 3 (.loop (.seq (.ops [⟨(some 79), none, .bin .lss (.t 78) (.t 77)⟩])
    (.seq (.cond (.t 79)
     (.skip)
     (.exit 3))
    (.seq (.block 4 (.seq (.ops [⟨(some 80), none, .move (.t 78)⟩,
       ⟨(some 81), none, .iaddrS 5 (.t 76) (.t 78)⟩,
       ⟨(some 82), none, .load (some 5) (.t 81)⟩,
       ⟨(some 17), none, .alloc [(.sc (.int .i64 (0))), (.sc (.int .i64 (0))), (.sc (.int .i64 (0))), (.sc (.int .i64 (0))), (.sc (.bool false))]⟩,
       ⟨(some 16), none, .move (.t 80)⟩,
       ⟨none, none, .store 5 (.t 17) (.t 82)⟩])
     (.seq (.ops [⟨(some 84), none, .faddr 0 (.t 17)⟩,
       ⟨(some 85), none, .load (some 3) (.t 84)⟩,
       ⟨(some 86), none, .call (.c (.fn (.func 134) [] [])) [(.t 85)]⟩,
       ⟨(some 83), none, .move (.t 86)⟩,
       ⟨(some 87), none, .extract 0 (.t 83)⟩,
       ⟨(some 88), none, .extract 1 (.t 83)⟩,
       ⟨(some 18), none, .move (.t 87)⟩,
       ⟨(some 19), none, .move (.t 88)⟩])
     (.draw [⟨false, [6], [], ⟨(some 89), none, .move (.t 6)⟩⟩,
       ⟨false, [11], [], ⟨(some 90), none, .move (.t 11)⟩⟩,
       ⟨false, [16], [], ⟨(some 91), none, .move (.t 16)⟩⟩,
       ⟨false, [90, 91], [], ⟨(some 92), none, .iaddrS 1 (.t 90) (.t 91)⟩⟩,
       ⟨false, [92], [], ⟨(some 93), none, .load none (.t 92)⟩⟩,
       ⟨false, [7], [], ⟨(some 94), none, .move (.t 7)⟩⟩,
       ⟨false, [93, 94], [], ⟨(some 95), none, .bin .mul (.t 93) (.t 94)⟩⟩,
       ⟨false, [15], [], ⟨(some 96), none, .move (.t 15)⟩⟩,
       ⟨false, [95, 96], [], ⟨(some 97), none, .bin .quo (.t 95) (.t 96)⟩⟩,
       ⟨false, [11], [], ⟨(some 98), none, .move (.t 11)⟩⟩,
       ⟨false, [16], [], ⟨(some 99), none, .move (.t 16)⟩⟩,
       ⟨false, [99], [], ⟨(some 100), none, .bin .add (.t 99) (.c (.sc (.int .i64 (1))))⟩⟩,
       ⟨false, [98, 100], [], ⟨(some 101), none, .iaddrS 1 (.t 98) (.t 100)⟩⟩,
       ⟨false, [101], [], ⟨(some 102), none, .load none (.t 101)⟩⟩,
       ⟨false, [7], [], ⟨(some 103), none, .move (.t 7)⟩⟩,
       ⟨false, [102, 103], [], ⟨(some 104), none, .bin .mul (.t 102) (.t 103)⟩⟩,
       ⟨false, [15], [], ⟨(some 105), none, .move (.t 15)⟩⟩,
       ⟨false, [104, 105], [], ⟨(some 106), none, .bin .quo (.t 104) (.t 105)⟩⟩,
       ⟨false, [18], [], ⟨(some 107), none, .move (.t 18)⟩⟩,
       ⟨false, [10], [], ⟨(some 108), none, .move (.t 10)⟩⟩,
       ⟨false, [107, 108], [], ⟨(some 109), none, .bin .sub (.t 107) (.t 108)⟩⟩,
       ⟨true, [97, 106, 109], [], ⟨(some 110), none, .build [(.sc (.int .i64 (0))), (.sc (.int .i64 (0))), (.sc (.int .i64 (0)))] [((0, 1), (.t 97)), ((1, 1), (.t 106)), ((2, 1), (.t 109))]⟩⟩,
       ⟨true, [110], [], ⟨(some 111), none, .buildSl 3 [(.t 110)]⟩⟩]
       [⟨(some 112), none, .append 3 24 (.t 89) (.t 111)⟩,
       ⟨(some 6), none, .move (.t 112)⟩]))))
    (.ops [⟨(some 113), none, .bin .add (.t 78) (.c (.sc (.int .i64 (1))))⟩,
      ⟨(some 78), none, .move (.t 113)⟩])))))))
  (.seq (.ops [⟨(some 114), none, .move (.t 6)⟩,
    ⟨(some 115), none, .move (.t 7)⟩,
    ⟨(some 6), none, .move (.t 114)⟩,
    ⟨(some 7), none, .move (.t 115)⟩,
    ⟨(some 8), none, .move (.c (.sc (.int .i64 (0))))⟩])
  (.ret))))))))))),
  [.t 6, .t 7, .t 8]⟩
theorem ok62 : EntryOk Tryz.prog 62 af62 := ⟨Tryz.f62, _, Tryz.func62, by decide, rfl, by kernel_rfl, by kernel_rfl, rfl⟩
/-- (*hemiola/perform.player).slurred -/
noncomputable def af66 : AF := ⟨12, .seq (.ops [⟨(some 2), none, .box (.t 0)⟩,
    ⟨(some 3), none, .box (.t 1)⟩,
    ⟨(some 4), none, .move (.c (.sc (.bool false)))⟩])
  (.seq (.ops [⟨(some 5), none, .load none (.t 2)⟩,
    ⟨(some 6), none, .nilCheck (.t 5)⟩,
    ⟨(some 7), none, .faddr 0 (.t 6)⟩,
    ⟨(some 8), none, .faddr 4 (.t 7)⟩,
    ⟨(some 9), none, .load none (.t 8)⟩,
    ⟨(some 10), none, .mkFn (.func 141) [] [(.t 2), (.t 3)]⟩,
    ⟨(some 11), none, .call (.c (.fn (.func 140) [] [])) [(.t 9), (.t 10)]⟩,
    ⟨(some 4), none, .move (.t 11)⟩])
  (.ret)),
  [.t 4]⟩
theorem ok66 : EntryOk Tryz.prog 66 af66 := ⟨Tryz.f66, _, Tryz.func66, by decide, rfl, by kernel_rfl, by kernel_rfl, rfl⟩
/-- slices.SortFunc[[]hemiola/perform.place,hemiola/perform.place] -/
noncomputable def af71 : AF := ⟨14, .seq (.ops [⟨(some 5), none, .move (.t 0)⟩,
    ⟨(some 6), none, .len (.t 5)⟩,
    ⟨(some 4), none, .move (.t 6)⟩])
  (.ops [⟨(some 7), none, .move (.t 0)⟩,
    ⟨(some 8), none, .move (.t 4)⟩,
    ⟨(some 9), none, .move (.t 4)⟩,
    ⟨(some 10), none, .convI .u64 (.t 9)⟩,
    ⟨(some 11), none, .call (.c (.fn (.func 144) [] [])) [(.t 10)]⟩,
    ⟨(some 12), none, .move (.t 1)⟩,
    ⟨(some 13), none, .call (.c (.fn (.func 143) [] [])) [(.t 7), (.c (.sc (.int .i64 (0)))), (.t 8), (.t 11), (.t 12)]⟩]),
  []⟩
theorem ok71 : EntryOk Tryz.prog 71 af71 := ⟨Tryz.f71, _, Tryz.func71, by decide, rfl, by kernel_rfl, by kernel_rfl, rfl⟩
/-- hemiola/perform.levels$3$1 -/
noncomputable def af79 : AF := ⟨12, .seq (.ops [⟨(some 4), none, .move (.c (.sc (.bool false)))⟩])
  (.seq (.draw [⟨false, [1], [], ⟨(some 5), none, .load none (.t 1)⟩⟩,
    ⟨false, [0], [], ⟨(some 6), none, .move (.t 0)⟩⟩,
    ⟨false, [5, 6], [], ⟨(some 7), none, .iaddrS 18 (.t 5) (.t 6)⟩⟩,
    ⟨false, [7], [], ⟨(some 8), none, .faddr 16 (.t 7)⟩⟩,
    ⟨false, [8], [], ⟨(some 9), none, .load none (.t 8)⟩⟩,
    ⟨false, [2], [], ⟨(some 10), none, .load none (.t 2)⟩⟩]
    [⟨(some 11), none, .bin .gtr (.t 9) (.t 10)⟩,
    ⟨(some 4), none, .move (.t 11)⟩])
  (.ret)),
  [.t 4]⟩
theorem ok79 : EntryOk Tryz.prog 79 af79 := ⟨Tryz.f79, _, Tryz.func79, by decide, rfl, by kernel_rfl, by kernel_rfl, rfl⟩
/-- (*hemiola/check.checker).clefs -/
noncomputable def af95 : AF := ⟨35, .seq (.seq (.ops [⟨(some 6), none, .move (.t 0)⟩,
    ⟨(some 7), none, .nilCheck (.t 6)⟩,
    ⟨(some 8), none, .faddr 0 (.t 7)⟩,
    ⟨(some 9), none, .faddr 2 (.t 8)⟩,
    ⟨(some 10), none, .load none (.t 9)⟩,
    ⟨(some 11), none, .len (.t 10)⟩,
    ⟨(some 12), none, .move (.c (.sc (.int .i64 (0))))⟩])
  (.block 0 (.loop (.seq (.ops [⟨(some 13), none, .bin .lss (.t 12) (.t 11)⟩])
    (.seq (.cond (.t 13)
     (.skip)
     (.exit 0))
    (.seq (.block 1 (.seq (.ops [⟨(some 14), none, .iaddrS 6 (.t 10) (.t 12)⟩,
       ⟨(some 15), none, .load (some 6) (.t 14)⟩,
       ⟨(some 3), none, .alloc [(.sc (.int .i64 (0))), (.sc (.int .i64 (0))), (.sc (.string ⟨#[]⟩)), (.sc (.int .i64 (0))), (.sc (.int .i64 (0))), (.sl true .full 0 [])]⟩,
       ⟨none, none, .store 6 (.t 3) (.t 15)⟩])
     (.seq (.ops [⟨(some 16), none, .faddr 5 (.t 3)⟩,
       ⟨(some 17), none, .load none (.t 16)⟩,
       ⟨(some 18), none, .len (.t 17)⟩,
       ⟨(some 19), none, .move (.c (.sc (.int .i64 (0))))⟩])
     (.block 2 (.loop (.seq (.ops [⟨(some 20), none, .bin .lss (.t 19) (.t 18)⟩])
       (.seq (.cond (.t 20)
        (.skip)
        (.exit 2))
       (.seq (.block 3 (.seq (.ops [⟨(some 21), none, .iaddrS 3 (.t 17) (.t 19)⟩,
          ⟨(some 22), none, .load (some 3) (.t 21)⟩,
          ⟨(some 5), none, .alloc [(.sc (.int .i64 (0))), (.sc (.int .i64 (0))), (.sc (.int .i64 (0)))]⟩,
          ⟨none, none, .store 3 (.t 5) (.t 22)⟩])
        (.draw [⟨false, [0], [], ⟨(some 23), none, .move (.t 0)⟩⟩,
          ⟨false, [5], [], ⟨(some 24), none, .faddr 2 (.t 5)⟩⟩,
          ⟨false, [24], [], ⟨(some 25), none, .load none (.t 24)⟩⟩,
          ⟨true, [25], [], ⟨(some 26), none, .call (.c (.fn (.func 173) [] [])) [(.t 25)]⟩⟩,
          ⟨false, [26], [], ⟨(some 27), none, .bin .neq (.t 26) (.c (.sc (.int .i64 (0))))⟩⟩,
          ⟨false, [5], [], ⟨(some 28), none, .faddr 0 (.t 5)⟩⟩,
          ⟨false, [28], [3], ⟨(some 29), none, .load (some 2) (.t 28)⟩⟩]
          [⟨(some 30), none, .call (.c (.fn (.func 164) [] [])) [(.t 23), (.t 27), (.t 29)]⟩])))
       (.ops [⟨(some 31), none, .bin .add (.t 19) (.c (.sc (.int .i64 (1))))⟩,
         ⟨(some 19), none, .move (.t 31)⟩])))))))))
    (.ops [⟨(some 32), none, .bin .add (.t 12) (.c (.sc (.int .i64 (1))))⟩,
      ⟨(some 12), none, .move (.t 32)⟩])))))))
  (.ops [⟨(some 33), none, .move (.t 0)⟩,
    ⟨(some 34), none, .call (.c (.fn (.func 171) [] [])) [(.t 33), (.c (.fn (.func 174) [] []))]⟩]),
  []⟩
theorem ok95 : EntryOk Tryz.prog 95 af95 := ⟨Tryz.f95, _, Tryz.func95, by decide, rfl, by kernel_rfl, by kernel_rfl, rfl⟩
/-- (*hemiola/check.checker).events -/
noncomputable def af99 : AF := ⟨4, .ops [⟨(some 2), none, .move (.t 0)⟩,
    ⟨(some 3), none, .call (.c (.fn (.func 179) [] [])) [(.t 2), (.c (.fn (.func 180) [] []))]⟩],
  []⟩
theorem ok99 : EntryOk Tryz.prog 99 af99 := ⟨Tryz.f99, _, Tryz.func99, by decide, rfl, by kernel_rfl, by kernel_rfl, rfl⟩
/-- (*hemiola/check.checker).ends -/
noncomputable def af103 : AF := ⟨31, .seq (.ops [⟨(some 7), none, .move (.t 0)⟩,
    ⟨(some 8), none, .call (.c (.fn (.func 195) [] [])) [(.t 7)]⟩,
    ⟨(some 6), none, .move (.t 8)⟩,
    ⟨(some 9), none, .extract 0 (.t 6)⟩,
    ⟨(some 10), none, .extract 1 (.t 6)⟩,
    ⟨(some 2), none, .move (.t 9)⟩,
    ⟨(some 3), none, .move (.t 10)⟩])
  (.seq (.ops [⟨(some 11), none, .move (.t 0)⟩,
    ⟨(some 12), none, .nilCheck (.t 11)⟩,
    ⟨(some 13), none, .faddr 0 (.t 12)⟩,
    ⟨(some 14), none, .faddr 4 (.t 13)⟩,
    ⟨(some 15), none, .load none (.t 14)⟩,
    ⟨(some 16), none, .len (.t 15)⟩,
    ⟨(some 17), none, .move (.c (.sc (.int .i64 (0))))⟩])
  (.block 0 (.loop (.seq (.ops [⟨(some 18), none, .bin .lss (.t 17) (.t 16)⟩])
    (.seq (.cond (.t 18)
     (.skip)
     (.exit 0))
    (.seq (.block 1 (.seq (.ops [⟨(some 19), none, .move (.t 17)⟩,
       ⟨(some 20), none, .iaddrS 7 (.t 15) (.t 17)⟩,
       ⟨(some 21), none, .load (some 7) (.t 20)⟩,
       ⟨(some 5), none, .alloc [(.sc (.int .i64 (0))), (.sc (.int .i64 (0))), (.sc (.int .i64 (0))), (.sc (.int .i64 (0))), (.sc (.int .i64 (0))), (.sc (.int .i64 (0))), (.sc (.int .i64 (0)))]⟩,
       ⟨(some 4), none, .move (.t 19)⟩,
       ⟨none, none, .store 7 (.t 5) (.t 21)⟩])
     (.draw [⟨false, [0], [], ⟨(some 22), none, .move (.t 0)⟩⟩,
       ⟨false, [3], [], ⟨(some 23), none, .move (.t 3)⟩⟩,
       ⟨false, [4], [], ⟨(some 24), none, .move (.t 4)⟩⟩,
       ⟨false, [23, 24], [], ⟨(some 25), none, .iaddrS 1 (.t 23) (.t 24)⟩⟩,
       ⟨false, [25], [], ⟨(some 26), none, .load none (.t 25)⟩⟩,
       ⟨false, [5], [], ⟨(some 27), none, .faddr 0 (.t 5)⟩⟩,
       ⟨false, [27], [], ⟨(some 28), none, .load (some 2) (.t 27)⟩⟩]
       [⟨(some 29), none, .call (.c (.fn (.func 164) [] [])) [(.t 22), (.t 26), (.t 28)]⟩])))
    (.ops [⟨(some 30), none, .bin .add (.t 17) (.c (.sc (.int .i64 (1))))⟩,
      ⟨(some 17), none, .move (.t 30)⟩]))))))),
  []⟩
theorem ok103 : EntryOk Tryz.prog 103 af103 := ⟨Tryz.f103, _, Tryz.func103, by decide, rfl, by kernel_rfl, by kernel_rfl, rfl⟩
/-- (*hemiola/check.checker).tempi -/
noncomputable def af107 : AF := ⟨4, .ops [⟨(some 2), none, .move (.t 0)⟩,
    ⟨(some 3), none, .call (.c (.fn (.func 171) [] [])) [(.t 2), (.c (.fn (.func 204) [] []))]⟩],
  []⟩
theorem ok107 : EntryOk Tryz.prog 107 af107 := ⟨Tryz.f107, _, Tryz.func107, by decide, rfl, by kernel_rfl, by kernel_rfl, rfl⟩
/-- (hemiola/unfold.group).measures -/
noncomputable def af111 : AF := ⟨4, .seq (.ops [⟨(some 1), none, .box (.t 0)⟩,
    ⟨(some 2), none, .move (.c (.sc .nilFunc))⟩])
  (.seq (.ops [⟨(some 3), none, .mkFn (.func 207) [] [(.t 1)]⟩,
    ⟨(some 2), none, .move (.t 3)⟩])
  (.ret)),
  [.t 2]⟩
theorem ok111 : EntryOk Tryz.prog 111 af111 := ⟨Tryz.f111, _, Tryz.func111, by decide, rfl, by kernel_rfl, by kernel_rfl, rfl⟩
/-- (*hemiola/timeline.line).measure -/
noncomputable def af116 : AF := ⟨66, .seq (.ops [⟨(some 6), none, .box (.t 1)⟩])
  (.seq (.ops [⟨(some 16), none, .load (some 22) (.t 6)⟩,
    ⟨(some 17), none, .call (.c (.fn (.func 211) [] [])) [(.t 16)]⟩,
    ⟨(some 15), none, .move (.t 17)⟩,
    ⟨(some 18), none, .extract 0 (.t 15)⟩,
    ⟨(some 19), none, .extract 1 (.t 15)⟩,
    ⟨(some 10), none, .move (.t 18)⟩,
    ⟨(some 11), none, .move (.t 19)⟩])
  (.seq (.ops [⟨(some 12), none, .move (.c (.sc (.bool false)))⟩])
  (.seq (.seq (.ops [⟨(some 20), none, .move (.t 10)⟩,
    ⟨(some 21), none, .len (.t 20)⟩,
    ⟨(some 22), none, .move (.c (.sc (.int .i64 (0))))⟩])
  (.block 0 (.loop (.seq (.ops [⟨(some 23), none, .bin .lss (.t 22) (.t 21)⟩])
    (.seq (.cond (.t 23)
     (.skip)
     (.exit 0))
    (.seq (.block 1 (.seq (.ops [⟨(some 24), none, .iaddrS 5 (.t 20) (.t 22)⟩,
       ⟨(some 25), none, .load (some 5) (.t 24)⟩,
       ⟨(some 14), none, .alloc [(.sc (.int .i64 (0))), (.sc (.int .i64 (0))), (.sc (.int .i64 (0))), (.sc (.int .i64 (0))), (.sc (.int .i64 (0)))]⟩,
       ⟨none, none, .store 5 (.t 14) (.t 25)⟩])
     (.seq (.ops [⟨(some 26), none, .faddr 0 (.t 14)⟩,
       ⟨(some 27), none, .load none (.t 26)⟩,
       ⟨(some 28), none, .move (.t 3)⟩,
       ⟨(some 29), none, .bin .eql (.t 27) (.t 28)⟩,
       ⟨(some 30), none, .move (.t 29)⟩,
       ⟨(some 31), (some (30, true)), .faddr 1 (.t 14)⟩,
       ⟨(some 32), (some (30, true)), .load none (.t 31)⟩,
       ⟨(some 33), (some (30, true)), .move (.t 4)⟩,
       ⟨(some 34), (some (30, true)), .bin .eql (.t 32) (.t 33)⟩,
       ⟨(some 35), none, .pick (.t 30) (.t 34) (.c (.sc (.bool false)))⟩])
     (.cond (.t 35)
      (.seq (.ops [⟨(some 12), none, .move (.c (.sc (.bool true)))⟩])
      (.draw [⟨false, [0], [], ⟨(some 36), none, .move (.t 0)⟩⟩,
        ⟨false, [6], [], ⟨(some 37), none, .faddr 21 (.t 6)⟩⟩,
        ⟨false, [37], [], ⟨(some 38), none, .load none (.t 37)⟩⟩,
        ⟨false, [3], [], ⟨(some 39), none, .move (.t 3)⟩⟩,
        ⟨false, [38, 39], [], ⟨(some 40), none, .iaddrS 2 (.t 38) (.t 39)⟩⟩,
        ⟨false, [40], [], ⟨(some 41), none, .faddr 1 (.t 40)⟩⟩,
        ⟨false, [41], [], ⟨(some 42), none, .load none (.t 41)⟩⟩,
        ⟨false, [4], [], ⟨(some 43), none, .move (.t 4)⟩⟩,
        ⟨false, [42, 43], [], ⟨(some 44), none, .iaddrS 2 (.t 42) (.t 43)⟩⟩,
        ⟨false, [44], [], ⟨(some 45), none, .faddr 0 (.t 44)⟩⟩,
        ⟨false, [45], [], ⟨(some 46), none, .load none (.t 45)⟩⟩,
        ⟨false, [14], [], ⟨(some 47), none, .faddr 2 (.t 14)⟩⟩,
        ⟨false, [47], [], ⟨(some 48), none, .load none (.t 47)⟩⟩,
        ⟨false, [46, 48], [], ⟨(some 49), none, .iaddrS 13 (.t 46) (.t 48)⟩⟩,
        ⟨false, [49], [], ⟨(some 50), none, .load (some 13) (.t 49)⟩⟩,
        ⟨false, [2], [], ⟨(some 51), none, .move (.t 2)⟩⟩,
        ⟨false, [14], [], ⟨(some 52), none, .faddr 3 (.t 14)⟩⟩,
        ⟨false, [52], [], ⟨(some 53), none, .load none (.t 52)⟩⟩,
        ⟨false, [51, 53], [], ⟨(some 54), none, .bin .add (.t 51) (.t 53)⟩⟩,
        ⟨false, [2], [], ⟨(some 55), none, .move (.t 2)⟩⟩,
        ⟨false, [14], [], ⟨(some 56), none, .faddr 4 (.t 14)⟩⟩,
        ⟨false, [56], [], ⟨(some 57), none, .load none (.t 56)⟩⟩,
        ⟨false, [55, 57], [], ⟨(some 58), none, .bin .add (.t 55) (.t 57)⟩⟩]
        [⟨(some 59), none, .call (.c (.fn (.func 212) [] [])) [(.t 36), (.t 50), (.t 54), (.t 58)]⟩]))
      (.skip)))))
    (.ops [⟨(some 60), none, .bin .add (.t 22) (.c (.sc (.int .i64 (1))))⟩,
      ⟨(some 22), none, .move (.t 60)⟩])))))))
  (.seq (.ops [⟨(some 61), none, .move (.t 12)⟩,
    ⟨(some 62), none, .un .not (.t 61)⟩])
  (.cond (.t 62)
   (.ops [⟨(some 63), none, .move (.t 0)⟩,
     ⟨(some 64), none, .nilCheck (.t 63)⟩,
     ⟨(some 65), none, .faddr 1 (.t 64)⟩,
     ⟨none, none, .store 1 (.t 65) (.c (.sc (.map none)))⟩])
   (.skip)))))),
  []⟩
theorem ok116 : EntryOk Tryz.prog 116 af116 := ⟨Tryz.f116, _, Tryz.func116, by decide, rfl, by kernel_rfl, by kernel_rfl, rfl⟩
/-- hemiola/tempo.index$1 -/
noncomputable def af121 : AF := ⟨12, .seq (.ops [⟨(some 4), none, .move (.c (.sc (.bool false)))⟩])
  (.seq (.draw [⟨false, [1], [], ⟨(some 5), none, .load none (.t 1)⟩⟩,
    ⟨false, [0], [], ⟨(some 6), none, .move (.t 0)⟩⟩,
    ⟨false, [5, 6], [], ⟨(some 7), none, .iaddrS 3 (.t 5) (.t 6)⟩⟩,
    ⟨false, [7], [], ⟨(some 8), none, .faddr 0 (.t 7)⟩⟩,
    ⟨false, [8], [], ⟨(some 9), none, .load none (.t 8)⟩⟩,
    ⟨false, [2], [], ⟨(some 10), none, .load none (.t 2)⟩⟩]
    [⟨(some 11), none, .bin .gtr (.t 9) (.t 10)⟩,
    ⟨(some 4), none, .move (.t 11)⟩])
  (.ret)),
  [.t 4]⟩
theorem ok121 : EntryOk Tryz.prog 121 af121 := ⟨Tryz.f121, _, Tryz.func121, by decide, rfl, by kernel_rfl, by kernel_rfl, rfl⟩
/-- hemiola/voice.checked -/
noncomputable def af125 : AF := ⟨31, .seq (.ops [⟨(some 2), none, .box (.t 0)⟩,
    ⟨(some 4), none, .move (.c (.sl true .full 0 []))⟩,
    ⟨(some 5), none, .move (.c (.sc (.int .i64 (0))))⟩])
  (.seq (.ops [⟨(some 9), none, .load (some 2) (.t 2)⟩,
    ⟨(some 10), none, .move (.t 1)⟩,
    ⟨(some 11), none, .call (.c (.fn (.func 219) [] [])) [(.t 9), (.t 10)]⟩,
    ⟨(some 8), none, .move (.t 11)⟩,
    ⟨(some 12), none, .extract 0 (.t 8)⟩,
    ⟨(some 13), none, .extract 1 (.t 8)⟩,
    ⟨(some 6), none, .move (.t 12)⟩,
    ⟨(some 7), none, .move (.t 13)⟩])
  (.seq (.seq (.ops [⟨(some 14), none, .move (.t 7)⟩,
    ⟨(some 15), none, .bin .eql (.t 14) (.c (.sc (.int .i64 (0))))⟩,
    ⟨(some 16), none, .move (.t 15)⟩,
    ⟨(some 17), (some (16, true)), .move (.t 6)⟩,
    ⟨(some 18), (some (16, true)), .len (.t 17)⟩,
    ⟨(some 19), (some (16, true)), .bin .gtr (.t 18) (.c (.sc (.int .i64 (0))))⟩,
    ⟨(some 20), none, .pick (.t 16) (.t 19) (.c (.sc (.bool false)))⟩,
    ⟨(some 21), none, .move (.t 20)⟩,
    ⟨(some 22), (some (21, true)), .move (.t 6)⟩,
    ⟨(some 23), (some (21, true)), .call (.c (.fn (.func 220) [] [])) [(.t 22)]⟩,
    ⟨(some 24), (some (21, true)), .move (.t 1)⟩,
    ⟨(some 25), (some (21, true)), .bin .neq (.t 23) (.t 24)⟩,
    ⟨(some 26), none, .pick (.t 21) (.t 25) (.c (.sc (.bool false)))⟩])
  (.cond (.t 26)
   (.ops [⟨(some 7), none, .move (.c (.sc (.int .i64 (20))))⟩])
   (.skip)))
  (.seq (.seq (.ops [⟨(some 27), none, .move (.t 7)⟩,
    ⟨(some 28), none, .bin .neq (.t 27) (.c (.sc (.int .i64 (0))))⟩])
  (.cond (.t 28)
   (.seq (.ops [⟨(some 29), none, .move (.t 7)⟩,
     ⟨(some 4), none, .move (.c (.sl true .full 0 []))⟩,
     ⟨(some 5), none, .move (.t 29)⟩])
   (.ret))
   (.skip)))
  (.seq (.ops [⟨(some 30), none, .move (.t 6)⟩,
    ⟨(some 4), none, .move (.t 30)⟩,
    ⟨(some 5), none, .move (.c (.sc (.int .i64 (0))))⟩])
  (.ret))))),
  [.t 4, .t 5]⟩
theorem ok125 : EntryOk Tryz.prog 125 af125 := ⟨Tryz.f125, _, Tryz.func125, by decide, rfl, by kernel_rfl, by kernel_rfl, rfl⟩
/-- hemiola/measure.Place -/
noncomputable def af130 : AF := ⟨32, .seq (.ops [⟨(some 1), none, .box (.t 0)⟩,
    ⟨(some 2), none, .alloc [(.sc (.int .i64 (0))), (.sc (.int .i64 (0))), (.sc (.int .i64 (0))), (.sc (.int .i64 (0))), (.sc (.int .i64 (0))), (.sc (.int .i64 (0))), (.sc (.int .i64 (0))), (.sc (.int .i64 (0))), (.sc (.int .i64 (0))), (.sc (.int .i64 (0)))]⟩,
    ⟨(some 3), none, .move (.c (.sc (.int .i64 (0))))⟩])
  (.seq (.ops [⟨(some 8), none, .load (some 22) (.t 1)⟩,
    ⟨(some 9), none, .call (.c (.fn (.func 55) [] [])) [(.t 8)]⟩,
    ⟨(some 7), none, .move (.t 9)⟩,
    ⟨(some 10), none, .extract 0 (.t 7)⟩,
    ⟨(some 11), none, .extract 1 (.t 7)⟩,
    ⟨(some 4), none, .move (.t 10)⟩,
    ⟨(some 5), none, .move (.t 11)⟩])
  (.seq (.seq (.ops [⟨(some 12), none, .move (.t 5)⟩,
    ⟨(some 13), none, .bin .neq (.t 12) (.c (.sc (.int .i64 (0))))⟩])
  (.cond (.t 13)
   (.seq (.ops [⟨(some 14), none, .build [(.sc (.int .i64 (0))), (.sc (.int .i64 (0))), (.sc (.int .i64 (0))), (.sc (.int .i64 (0))), (.sc (.int .i64 (0))), (.sc (.int .i64 (0))), (.sc (.int .i64 (0))), (.sc (.int .i64 (0))), (.sc (.int .i64 (0))), (.sc (.int .i64 (0)))] []⟩,
     ⟨(some 15), none, .move (.t 5)⟩,
     ⟨none, none, .store 10 (.t 2) (.t 14)⟩,
     ⟨(some 3), none, .move (.t 15)⟩])
   (.ret))
   (.skip)))
  (.seq (.ops [⟨(some 17), none, .faddr 2 (.t 1)⟩,
    ⟨(some 18), none, .load (some 8) (.t 17)⟩,
    ⟨(some 19), none, .move (.t 4)⟩,
    ⟨(some 20), none, .call (.c (.fn (.func 221) [] [])) [(.t 18), (.t 19)]⟩,
    ⟨(some 16), none, .move (.t 20)⟩,
    ⟨(some 21), none, .extract 0 (.t 16)⟩,
    ⟨(some 22), none, .extract 1 (.t 16)⟩,
    ⟨(some 6), none, .move (.t 21)⟩,
    ⟨(some 5), none, .move (.t 22)⟩])
  (.seq (.seq (.ops [⟨(some 23), none, .move (.t 5)⟩,
    ⟨(some 24), none, .bin .neq (.t 23) (.c (.sc (.int .i64 (0))))⟩])
  (.cond (.t 24)
   (.seq (.ops [⟨(some 25), none, .build [(.sc (.int .i64 (0))), (.sc (.int .i64 (0))), (.sc (.int .i64 (0))), (.sc (.int .i64 (0))), (.sc (.int .i64 (0))), (.sc (.int .i64 (0))), (.sc (.int .i64 (0))), (.sc (.int .i64 (0))), (.sc (.int .i64 (0))), (.sc (.int .i64 (0)))] []⟩,
     ⟨(some 26), none, .move (.t 5)⟩,
     ⟨none, none, .store 10 (.t 2) (.t 25)⟩,
     ⟨(some 3), none, .move (.t 26)⟩])
   (.ret))
   (.skip)))
  (.seq (.ops [⟨(some 27), none, .faddr 2 (.t 1)⟩,
    ⟨(some 28), none, .load (some 8) (.t 27)⟩,
    ⟨(some 29), none, .move (.t 6)⟩,
    ⟨(some 30), none, .move (.t 4)⟩,
    ⟨(some 31), none, .build [(.sc (.int .i64 (0))), (.sc (.int .i64 (0))), (.sc (.int .i64 (0))), (.sc (.int .i64 (0))), (.sc (.int .i64 (0))), (.sc (.int .i64 (0))), (.sc (.int .i64 (0))), (.sc (.int .i64 (0))), (.sc (.int .i64 (0))), (.sc (.int .i64 (0)))] [((0, 8), (.t 28)), ((8, 1), (.t 29)), ((9, 1), (.t 30))]⟩,
    ⟨none, none, .store 10 (.t 2) (.t 31)⟩,
    ⟨(some 3), none, .move (.c (.sc (.int .i64 (0))))⟩])
  (.ret)))))),
  [.c 2 (some 10), .t 3]⟩
theorem ok130 : EntryOk Tryz.prog 130 af130 := ⟨Tryz.f130, _, Tryz.func130, by decide, rfl, by kernel_rfl, by kernel_rfl, rfl⟩
/-- hemiola/pitch.Number -/
noncomputable def af134 : AF := ⟨12, .seq (.ops [⟨(some 1), none, .box (.t 0)⟩,
    ⟨(some 2), none, .move (.c (.sc (.int .i64 (0))))⟩,
    ⟨(some 3), none, .move (.c (.sc (.int .i64 (0))))⟩])
  (.seq (.seq (.ops [⟨(some 5), none, .load (some 3) (.t 1)⟩,
    ⟨(some 6), none, .call (.c (.fn (.func 224) [] [])) [(.t 5)]⟩,
    ⟨(some 4), none, .move (.t 6)⟩])
  (.seq (.ops [⟨(some 7), none, .move (.t 4)⟩,
    ⟨(some 8), none, .bin .neq (.t 7) (.c (.sc (.int .i64 (0))))⟩])
  (.cond (.t 8)
   (.seq (.ops [⟨(some 9), none, .move (.t 4)⟩,
     ⟨(some 2), none, .move (.c (.sc (.int .i64 (0))))⟩,
     ⟨(some 3), none, .move (.t 9)⟩])
   (.ret))
   (.skip))))
  (.seq (.ops [⟨(some 10), none, .load (some 3) (.t 1)⟩,
    ⟨(some 11), none, .call (.c (.fn (.func 225) [] [])) [(.t 10)]⟩,
    ⟨(some 2), none, .move (.t 11)⟩,
    ⟨(some 3), none, .move (.c (.sc (.int .i64 (0))))⟩])
  (.ret))),
  [.t 2, .t 3]⟩
theorem ok134 : EntryOk Tryz.prog 134 af134 := ⟨Tryz.f134, _, Tryz.func134, by decide, rfl, by kernel_rfl, by kernel_rfl, rfl⟩
/-- hemiola/ornament.semitones -/
noncomputable def af138 : AF := ⟨26, .seq (.ops [⟨(some 4), none, .move (.c (.sc (.int .i64 (0))))⟩])
  (.seq (.ops [⟨(some 7), none, .move (.t 0)⟩,
    ⟨(some 8), none, .bin .quo (.t 7) (.c (.sc (.int .i64 (7))))⟩,
    ⟨(some 9), none, .move (.t 0)⟩,
    ⟨(some 10), none, .bin .rem (.t 9) (.c (.sc (.int .i64 (7))))⟩,
    ⟨(some 5), none, .move (.t 8)⟩,
    ⟨(some 6), none, .move (.t 10)⟩])
  (.seq (.seq (.ops [⟨(some 11), none, .move (.t 6)⟩,
    ⟨(some 12), none, .bin .lss (.t 11) (.c (.sc (.int .i64 (0))))⟩])
  (.cond (.t 12)
   (.ops [⟨(some 13), none, .move (.t 5)⟩,
     ⟨(some 14), none, .bin .sub (.t 13) (.c (.sc (.int .i64 (1))))⟩,
     ⟨(some 15), none, .move (.t 6)⟩,
     ⟨(some 16), none, .bin .add (.t 15) (.c (.sc (.int .i64 (7))))⟩,
     ⟨(some 5), none, .move (.t 14)⟩,
     ⟨(some 6), none, .move (.t 16)⟩])
   (.skip)))
  (.seq (.ops [⟨(some 17), none, .move (.t 5)⟩,
    ⟨(some 18), none, .bin .add (.t 17) (.c (.sc (.int .i64 (1))))⟩,
    ⟨(some 19), none, .bin .mul (.c (.sc (.int .i64 (12)))) (.t 18)⟩,
    ⟨(some 20), none, .build [(.sc (.int .i64 (0))), (.sc (.int .i64 (0))), (.sc (.int .i64 (0))), (.sc (.int .i64 (0))), (.sc (.int .i64 (0))), (.sc (.int .i64 (0))), (.sc (.int .i64 (0)))] [((0, 1), (.c (.sc (.int .i64 (0))))), ((1, 1), (.c (.sc (.int .i64 (2))))), ((2, 1), (.c (.sc (.int .i64 (4))))), ((3, 1), (.c (.sc (.int .i64 (5))))), ((4, 1), (.c (.sc (.int .i64 (7))))), ((5, 1), (.c (.sc (.int .i64 (9))))), ((6, 1), (.c (.sc (.int .i64 (11)))))]⟩,
    ⟨(some 21), none, .move (.t 6)⟩,
    ⟨(some 22), none, .idxA 1 7 none (.t 20) (.t 21)⟩,
    ⟨(some 23), none, .bin .add (.t 19) (.t 22)⟩,
    ⟨(some 24), none, .move (.t 1)⟩,
    ⟨(some 25), none, .bin .add (.t 23) (.t 24)⟩,
    ⟨(some 4), none, .move (.t 25)⟩])
  (.ret)))),
  [.t 4]⟩
theorem ok138 : EntryOk Tryz.prog 138 af138 := ⟨Tryz.f138, _, Tryz.func138, by decide, rfl, by kernel_rfl, by kernel_rfl, rfl⟩
/-- math/bits.Len -/
noncomputable def af144 : AF := ⟨8, .seq (.ops [⟨(some 2), none, .move (.c (.sc (.int .i64 (0))))⟩])
  (.seq (.cond (.c (.sc (.bool false)))
   (.seq (.ops [⟨(some 3), none, .move (.t 0)⟩,
     ⟨(some 4), none, .convI .u32 (.t 3)⟩,
     ⟨(some 5), none, .call (.c (.fn (.func 239) [] [])) [(.t 4)]⟩,
     ⟨(some 2), none, .move (.t 5)⟩])
   (.ret))
   (.skip))
  (.seq (.ops [⟨(some 6), none, .move (.t 0)⟩,
    ⟨(some 7), none, .call (.c (.fn (.func 240) [] [])) [(.t 6)]⟩,
    ⟨(some 2), none, .move (.t 7)⟩])
  (.ret))),
  [.t 2]⟩
theorem ok144 : EntryOk Tryz.prog 144 af144 := ⟨Tryz.f144, _, Tryz.func144, by decide, rfl, by kernel_rfl, by kernel_rfl, rfl⟩
/-- hemiola/check.within -/
noncomputable def af166 : AF := ⟨15, .seq (.ops [⟨(some 6), none, .move (.c (.sc (.bool false)))⟩])
  (.seq (.ops [⟨(some 7), none, .move (.t 0)⟩,
    ⟨(some 8), none, .move (.t 1)⟩,
    ⟨(some 9), none, .bin .geq (.t 7) (.t 8)⟩,
    ⟨(some 10), none, .move (.t 9)⟩,
    ⟨(some 11), (some (10, true)), .move (.t 0)⟩,
    ⟨(some 12), (some (10, true)), .move (.t 2)⟩,
    ⟨(some 13), (some (10, true)), .bin .leq (.t 11) (.t 12)⟩,
    ⟨(some 14), none, .pick (.t 10) (.t 13) (.c (.sc (.bool false)))⟩,
    ⟨(some 6), none, .move (.t 14)⟩])
  (.ret)),
  [.t 6]⟩
theorem ok166 : EntryOk Tryz.prog 166 af166 := ⟨Tryz.f166, _, Tryz.func166, by decide, rfl, by kernel_rfl, by kernel_rfl, rfl⟩
/-- hemiola/score.Last -/
noncomputable def af170 : AF := ⟨21, .seq (.ops [⟨(some 2), none, .box (.t 0)⟩,
    ⟨(some 4), none, .move (.c (.sc (.int .i64 (0))))⟩])
  (.seq (.seq (.ops [⟨(some 7), none, .faddr 5 (.t 2)⟩,
    ⟨(some 8), none, .load none (.t 7)⟩,
    ⟨(some 9), none, .len (.t 8)⟩,
    ⟨(some 10), none, .move (.c (.sc (.int .i64 (0))))⟩])
  (.block 0 (.loop (.seq (.ops [⟨(some 11), none, .bin .lss (.t 10) (.t 9)⟩])
    (.seq (.cond (.t 11)
     (.skip)
     (.exit 0))
    (.seq (.block 1 (.seq (.ops [⟨(some 12), none, .iaddrS 2 (.t 8) (.t 10)⟩,
       ⟨(some 13), none, .load (some 2) (.t 12)⟩,
       ⟨(some 6), none, .alloc [(.sc (.int .i64 (0))), (.sc (.int .i64 (0)))]⟩,
       ⟨none, none, .store 2 (.t 6) (.t 13)⟩])
     (.seq (.ops [⟨(some 14), none, .faddr 0 (.t 6)⟩,
       ⟨(some 15), none, .load none (.t 14)⟩,
       ⟨(some 16), none, .move (.t 1)⟩,
       ⟨(some 17), none, .bin .eql (.t 15) (.t 16)⟩])
     (.cond (.t 17)
      (.seq (.ops [⟨(some 18), none, .faddr 1 (.t 6)⟩,
        ⟨(some 19), none, .load none (.t 18)⟩,
        ⟨(some 4), none, .move (.t 19)⟩])
      (.ret))
      (.skip)))))
    (.ops [⟨(some 20), none, .bin .add (.t 10) (.c (.sc (.int .i64 (1))))⟩,
      ⟨(some 10), none, .move (.t 20)⟩])))))))
  (.seq (.ops [⟨(some 4), none, .move (.c (.sc (.int .i64 (0))))⟩])
  (.ret))),
  [.t 4]⟩
theorem ok170 : EntryOk Tryz.prog 170 af170 := ⟨Tryz.f170, _, Tryz.func170, by decide, rfl, by kernel_rfl, by kernel_rfl, rfl⟩
/-- (*hemiola/check.checker).clefs$1 -/
noncomputable def af174 : AF := ⟨70, .seq (.ops [⟨(some 3), none, .box (.t 1)⟩,
    ⟨(some 4), none, .move (.c (.sc (.bool false)))⟩])
  (.seq (.ops [⟨(some 13), none, .load (some 22) (.t 3)⟩,
    ⟨(some 14), none, .call (.c (.fn (.func 55) [] [])) [(.t 13)]⟩,
    ⟨(some 12), none, .move (.t 14)⟩,
    ⟨(some 15), none, .extract 0 (.t 12)⟩,
    ⟨(some 16), none, .extract 1 (.t 12)⟩,
    ⟨(some 5), none, .move (.t 15)⟩,
    ⟨(some 6), none, .move (.t 16)⟩])
  (.seq (.ops [⟨(some 7), none, .move (.c (.sc (.bool false)))⟩])
  (.seq (.seq (.ops [⟨(some 17), none, .faddr 21 (.t 3)⟩,
    ⟨(some 18), none, .load none (.t 17)⟩,
    ⟨(some 19), none, .len (.t 18)⟩,
    ⟨(some 20), none, .move (.c (.sc (.int .i64 (0))))⟩])
  (.block 0 (.loop (.seq (.ops [⟨(some 21), none, .bin .lss (.t 20) (.t 19)⟩])
    (.seq (.cond (.t 21)
     (.skip)
     (.exit 0))
    (.seq (.block 1 (.seq (.ops [⟨(some 22), none, .iaddrS 2 (.t 18) (.t 20)⟩,
       ⟨(some 23), none, .load (some 2) (.t 22)⟩,
       ⟨(some 9), none, .alloc [(.sl true .full 0 []), (.sl true .full 0 [])]⟩,
       ⟨none, none, .store 2 (.t 9) (.t 23)⟩])
     (.seq (.ops [⟨(some 24), none, .faddr 0 (.t 9)⟩,
       ⟨(some 25), none, .load none (.t 24)⟩,
       ⟨(some 26), none, .len (.t 25)⟩,
       ⟨(some 27), none, .move (.c (.sc (.int .i64 (0))))⟩])
     (.block 2 (.loop (.seq (.ops [⟨(some 28), none, .bin .lss (.t 27) (.t 26)⟩])
       (.seq (.cond (.t 28)
        (.skip)
        (.exit 2))
       (.seq (.block 3 (.seq (.ops [⟨(some 29), none, .move (.t 27)⟩,
          ⟨(some 30), none, .iaddrS 2 (.t 25) (.t 27)⟩,
          ⟨(some 31), none, .load (some 2) (.t 30)⟩,
          ⟨(some 11), none, .alloc [(.sc (.int .i64 (0))), (.sc (.int .i64 (0)))]⟩,
          ⟨(some 10), none, .move (.t 29)⟩,
          ⟨none, none, .store 2 (.t 11) (.t 31)⟩])
        (.draw [⟨true, [7], [], ⟨(some 32), none, .move (.t 7)⟩⟩,
          ⟨true, [32], [], ⟨(some 33), none, .move (.t 32)⟩⟩,
          ⟨true, [11, 33], [], ⟨(some 34), (some (33, false)), .faddr 1 (.t 11)⟩⟩,
          ⟨true, [34, 33], [], ⟨(some 35), (some (33, false)), .load none (.t 34)⟩⟩,
          ⟨true, [35, 33], [], ⟨(some 36), (some (33, false)), .call (.c (.fn (.func 173) [] [])) [(.t 35)]⟩⟩,
          ⟨true, [36, 33], [], ⟨(some 37), (some (33, false)), .bin .neq (.t 36) (.c (.sc (.int .i64 (0))))⟩⟩,
          ⟨true, [33, 37], [], ⟨(some 38), none, .pick (.t 33) (.c (.sc (.bool true))) (.t 37)⟩⟩,
          ⟨true, [38], [], ⟨(some 39), none, .move (.t 38)⟩⟩,
          ⟨true, [11, 39], [], ⟨(some 40), (some (39, false)), .faddr 0 (.t 11)⟩⟩,
          ⟨true, [40, 39], [], ⟨(some 41), (some (39, false)), .load none (.t 40)⟩⟩,
          ⟨false, [5, 39], [], ⟨(some 42), (some (39, false)), .move (.t 5)⟩⟩,
          ⟨false, [42, 39], [], ⟨(some 43), (some (39, false)), .bin .sub (.t 42) (.c (.sc (.int .i64 (1))))⟩⟩,
          ⟨true, [41, 43, 39], [], ⟨(some 44), (some (39, false)), .call (.c (.fn (.func 166) [] [])) [(.t 41), (.c (.sc (.int .i64 (0)))), (.t 43)]⟩⟩,
          ⟨true, [44, 39], [], ⟨(some 45), (some (39, false)), .un .not (.t 44)⟩⟩,
          ⟨true, [39, 45], [], ⟨(some 46), none, .pick (.t 39) (.c (.sc (.bool true))) (.t 45)⟩⟩,
          ⟨true, [46], [], ⟨(some 47), none, .move (.t 46)⟩⟩,
          ⟨true, [10, 47], [], ⟨(some 48), (some (47, false)), .move (.t 10)⟩⟩,
          ⟨true, [48, 47], [], ⟨(some 49), (some (47, false)), .bin .gtr (.t 48) (.c (.sc (.int .i64 (0))))⟩⟩,
          ⟨true, [49, 47], [], ⟨(some 50), (some (47, false)), .move (.t 49)⟩⟩,
          ⟨false, [11, 50], [], ⟨(some 51), (some (50, true)), .faddr 0 (.t 11)⟩⟩,
          ⟨false, [51, 50], [], ⟨(some 52), (some (50, true)), .load none (.t 51)⟩⟩,
          ⟨false, [9, 50], [], ⟨(some 53), (some (50, true)), .faddr 0 (.t 9)⟩⟩,
          ⟨false, [53, 50], [], ⟨(some 54), (some (50, true)), .load none (.t 53)⟩⟩,
          ⟨false, [10, 50], [], ⟨(some 55), (some (50, true)), .move (.t 10)⟩⟩,
          ⟨false, [55, 50], [], ⟨(some 56), (some (50, true)), .bin .sub (.t 55) (.c (.sc (.int .i64 (1))))⟩⟩,
          ⟨false, [54, 56, 50], [], ⟨(some 57), (some (50, true)), .iaddrS 2 (.t 54) (.t 56)⟩⟩,
          ⟨false, [57, 50], [], ⟨(some 58), (some (50, true)), .faddr 0 (.t 57)⟩⟩,
          ⟨false, [58, 50], [], ⟨(some 59), (some (50, true)), .load none (.t 58)⟩⟩]
          [⟨(some 60), (some (50, true)), .bin .leq (.t 52) (.t 59)⟩,
          ⟨(some 61), (some (47, false)), .pick (.t 50) (.t 60) (.c (.sc (.bool false)))⟩,
          ⟨(some 62), none, .pick (.t 47) (.c (.sc (.bool true))) (.t 61)⟩,
          ⟨(some 7), none, .move (.t 62)⟩])))
       (.ops [⟨(some 63), none, .bin .add (.t 27) (.c (.sc (.int .i64 (1))))⟩,
         ⟨(some 27), none, .move (.t 63)⟩])))))))))
    (.ops [⟨(some 64), none, .bin .add (.t 20) (.c (.sc (.int .i64 (1))))⟩,
      ⟨(some 20), none, .move (.t 64)⟩])))))))
  (.seq (.ops [⟨(some 65), none, .move (.t 7)⟩,
    ⟨(some 66), none, .move (.t 65)⟩,
    ⟨(some 67), (some (66, true)), .move (.t 6)⟩,
    ⟨(some 68), (some (66, true)), .bin .eql (.t 67) (.c (.sc (.int .i64 (0))))⟩,
    ⟨(some 69), none, .pick (.t 66) (.t 68) (.c (.sc (.bool false)))⟩,
    ⟨(some 4), none, .move (.t 69)⟩])
  (.ret))))),
  [.t 4]⟩
theorem ok174 : EntryOk Tryz.prog 174 af174 := ⟨Tryz.f174, _, Tryz.func174, by decide, rfl, by kernel_rfl, by kernel_rfl, rfl⟩
/-- (*hemiola/check.checker).tuplets$1 -/
noncomputable def af178 : AF := ⟨10, .seq (.ops [⟨(some 2), none, .move (.c (.sc (.bool false)))⟩])
  (.seq (.ops [⟨(some 3), none, .move (.t 0)⟩,
    ⟨(some 4), none, .bin .neq (.t 3) (.c (.sc (.int .i64 (0))))⟩,
    ⟨(some 5), none, .move (.t 4)⟩,
    ⟨(some 6), (some (5, true)), .move (.t 0)⟩,
    ⟨(some 7), (some (5, true)), .call (.c (.fn (.func 177) [] [])) [(.t 6)]⟩,
    ⟨(some 8), (some (5, true)), .un .not (.t 7)⟩,
    ⟨(some 9), none, .pick (.t 5) (.t 8) (.c (.sc (.bool false)))⟩,
    ⟨(some 2), none, .move (.t 9)⟩])
  (.ret)),
  [.t 2]⟩
theorem ok178 : EntryOk Tryz.prog 178 af178 := ⟨Tryz.f178, _, Tryz.func178, by decide, rfl, by kernel_rfl, by kernel_rfl, rfl⟩
/-- (*hemiola/check.checker).pitches$1 -/
noncomputable def af182 : AF := ⟨55, .seq (.ops [⟨(some 3), none, .box (.t 0)⟩,
    ⟨(some 4), none, .box (.t 1)⟩,
    ⟨(some 5), none, .move (.c (.sc (.bool false)))⟩])
  (.seq (.seq (.ops [⟨(some 11), none, .load (some 13) (.t 4)⟩,
    ⟨(some 12), none, .call (.c (.fn (.func 181) [] [])) [(.t 11)]⟩,
    ⟨(some 13), none, .bin .neq (.t 12) (.c (.sc (.int .i64 (0))))⟩])
  (.cond (.t 13)
   (.seq (.ops [⟨(some 5), none, .move (.c (.sc (.bool false)))⟩])
   (.ret))
   (.skip)))
  (.seq (.ops [⟨(some 6), none, .alloc [(.sc (.int .i64 (0)))]⟩,
    ⟨none, none, .store 1 (.t 6) (.c (.sc (.int .i64 (0))))⟩])
  (.seq (.seq (.draw [⟨false, [2], [], ⟨(some 15), none, .load none (.t 2)⟩⟩,
    ⟨false, [15], [], ⟨(some 16), none, .nilCheck (.t 15)⟩⟩,
    ⟨false, [16], [], ⟨(some 17), none, .faddr 0 (.t 16)⟩⟩,
    ⟨false, [17], [], ⟨(some 18), none, .load (some 6) (.t 17)⟩⟩,
    ⟨false, [3], [], ⟨(some 19), none, .faddr 2 (.t 3)⟩⟩,
    ⟨false, [19], [], ⟨(some 20), none, .load none (.t 19)⟩⟩,
    ⟨true, [18, 20], [], ⟨(some 21), none, .call (.c (.fn (.func 115) [] [])) [(.t 18), (.t 20)]⟩⟩,
    ⟨true, [21], [], ⟨(some 14), none, .move (.t 21)⟩⟩,
    ⟨true, [14], [], ⟨(some 22), none, .extract 0 (.t 14)⟩⟩,
    ⟨true, [14], [], ⟨(some 23), none, .extract 1 (.t 14)⟩⟩,
    ⟨true, [14], [], ⟨(some 24), none, .extract 2 (.t 14)⟩⟩,
    ⟨true, [22], [], ⟨(some 7), none, .move (.t 22)⟩⟩,
    ⟨true, [23], [], ⟨(some 8), none, .move (.t 23)⟩⟩]
    [⟨(some 9), none, .move (.t 24)⟩])
  (.seq (.ops [⟨(some 25), none, .move (.t 9)⟩,
    ⟨(some 26), none, .bin .eql (.t 25) (.c (.sc (.int .i64 (0))))⟩])
  (.cond (.t 26)
   (.ops [⟨(some 27), none, .load none (.t 2)⟩,
     ⟨(some 28), none, .nilCheck (.t 27)⟩,
     ⟨(some 29), none, .faddr 0 (.t 28)⟩,
     ⟨(some 30), none, .faddr 2 (.t 29)⟩,
     ⟨(some 31), none, .load none (.t 30)⟩,
     ⟨(some 32), none, .move (.t 7)⟩,
     ⟨(some 33), none, .iaddrS 6 (.t 31) (.t 32)⟩,
     ⟨(some 34), none, .faddr 3 (.t 33)⟩,
     ⟨(some 35), none, .faddr 1 (.t 34)⟩,
     ⟨(some 36), none, .load none (.t 35)⟩,
     ⟨none, none, .store 1 (.t 6) (.t 36)⟩])
   (.skip))))
  (.seq (.seq (.ops [⟨(some 37), none, .load none (.t 2)⟩,
    ⟨(some 38), none, .nilCheck (.t 37)⟩,
    ⟨(some 39), none, .faddr 0 (.t 38)⟩,
    ⟨(some 40), none, .faddr 1 (.t 39)⟩,
    ⟨(some 41), none, .load none (.t 40)⟩])
  (.cond (.t 41)
   (.ops [⟨(some 42), none, .load none (.t 6)⟩,
     ⟨(some 43), none, .un .neg (.t 42)⟩,
     ⟨none, none, .store 1 (.t 6) (.t 43)⟩])
   (.skip)))
  (.seq (.ops [⟨(some 44), none, .mkFn (.func 183) [] [(.t 6)]⟩,
    ⟨(some 10), none, .alloc [(.sc .nilFunc)]⟩,
    ⟨none, none, .store 1 (.t 10) (.t 44)⟩])
  (.seq (.ops [⟨(some 45), none, .faddr 5 (.t 4)⟩,
    ⟨(some 46), none, .load none (.t 45)⟩,
    ⟨(some 47), none, .mkFn (.func 185) [] [(.t 10)]⟩,
    ⟨(some 48), none, .call (.c (.fn (.func 184) [] [])) [(.t 46), (.t 47)]⟩,
    ⟨(some 49), none, .move (.t 48)⟩,
    ⟨(some 50), (some (49, false)), .faddr 6 (.t 4)⟩,
    ⟨(some 51), (some (49, false)), .load none (.t 50)⟩,
    ⟨(some 52), (some (49, false)), .mkFn (.func 187) [] [(.t 10)]⟩,
    ⟨(some 53), (some (49, false)), .call (.c (.fn (.func 186) [] [])) [(.t 51), (.t 52)]⟩,
    ⟨(some 54), none, .pick (.t 49) (.c (.sc (.bool true))) (.t 53)⟩,
    ⟨(some 5), none, .move (.t 54)⟩])
  (.ret))))))),
  [.t 5]⟩
theorem ok182 : EntryOk Tryz.prog 182 af182 := ⟨Tryz.f182, _, Tryz.func182, by decide, rfl, by kernel_rfl, by kernel_rfl, rfl⟩
/-- slices.ContainsFunc[[]hemiola/api.Grace,hemiola/api.Grace] -/
noncomputable def af186 : AF := ⟨9, .seq (.ops [⟨(some 4), none, .move (.c (.sc (.bool false)))⟩])
  (.seq (.ops [⟨(some 5), none, .move (.t 0)⟩,
    ⟨(some 6), none, .move (.t 1)⟩,
    ⟨(some 7), none, .call (.c (.fn (.func 273) [] [])) [(.t 5), (.t 6)]⟩,
    ⟨(some 8), none, .bin .geq (.t 7) (.c (.sc (.int .i64 (0))))⟩,
    ⟨(some 4), none, .move (.t 8)⟩])
  (.ret)),
  [.t 4]⟩
theorem ok186 : EntryOk Tryz.prog 186 af186 := ⟨Tryz.f186, _, Tryz.func186, by decide, rfl, by kernel_rfl, by kernel_rfl, rfl⟩
/-- (*hemiola/check.checker).verse -/
noncomputable def af193 : AF := ⟨108, .seq (.ops [⟨(some 10), none, .alloc [(.sc (.string ⟨#[]⟩)), (.sc (.int .i64 (0)))]⟩])
  (.seq (.ops [⟨(some 11), none, .alloc [(.sc (.int .i64 (0))), (.sc (.int .i64 (0))), (.sc (.int .i64 (0))), (.sc (.int .i64 (0))), (.sc (.int .i64 (0))), (.sc (.int .i64 (0))), (.sc (.int .i64 (0)))]⟩])
  (.seq (.seq (.ops [⟨(some 18), none, .move (.t 0)⟩,
    ⟨(some 19), none, .nilCheck (.t 18)⟩,
    ⟨(some 20), none, .faddr 0 (.t 19)⟩,
    ⟨(some 21), none, .faddr 3 (.t 20)⟩,
    ⟨(some 22), none, .load none (.t 21)⟩,
    ⟨(some 23), none, .len (.t 22)⟩,
    ⟨(some 24), none, .move (.c (.sc (.int .i64 (0))))⟩])
  (.block 0 (.loop (.seq (.ops [⟨(some 25), none, .bin .lss (.t 24) (.t 23)⟩])
    (.seq (.cond (.t 25)
     (.skip)
     (.exit 0))
    (.seq (.block 1 (.seq (.ops [⟨(some 26), none, .move (.t 24)⟩,
       ⟨(some 27), none, .iaddrS 22 (.t 22) (.t 24)⟩,
       ⟨(some 28), none, .load (some 22) (.t 27)⟩,
       ⟨(some 13), none, .alloc [(.sc (.int .i64 (0))), (.sc (.int .i64 (0))), (.sc (.int .i64 (0))), (.sc (.int .i64 (0))), (.sc (.int .i64 (0))), (.sc (.int .i64 (0))), (.sc (.int .i64 (0))), (.sc (.int .i64 (0))), (.sc (.int .i64 (0))), (.sc (.int .i64 (0))), (.sc (.int .i64 (0))), (.sc (.int .i64 (0))), (.sc (.bool false)), (.sc (.int .i64 (0))), (.sc (.int .i64 (0))), (.sc (.int .i64 (0))), (.sc (.int .i64 (0))), (.sc (.int .i64 (0))), (.sc (.int .i64 (0))), (.sc (.string ⟨#[]⟩)), (.sl true .full 0 []), (.sl true .full 0 [])]⟩,
       ⟨(some 12), none, .move (.t 26)⟩,
       ⟨none, none, .store 22 (.t 13) (.t 28)⟩])
     (.seq (.seq (.ops [⟨(some 29), none, .move (.t 1)⟩,
       ⟨(some 30), none, .faddr 21 (.t 13)⟩,
       ⟨(some 31), none, .load none (.t 30)⟩,
       ⟨(some 32), none, .len (.t 31)⟩,
       ⟨(some 33), none, .bin .geq (.t 29) (.t 32)⟩,
       ⟨(some 34), none, .move (.t 33)⟩,
       ⟨(some 35), (some (34, false)), .move (.t 2)⟩,
       ⟨(some 36), (some (34, false)), .faddr 21 (.t 13)⟩,
       ⟨(some 37), (some (34, false)), .load none (.t 36)⟩,
       ⟨(some 38), (some (34, false)), .move (.t 1)⟩,
       ⟨(some 39), (some (34, false)), .iaddrS 2 (.t 37) (.t 38)⟩,
       ⟨(some 40), (some (34, false)), .faddr 1 (.t 39)⟩,
       ⟨(some 41), (some (34, false)), .load none (.t 40)⟩,
       ⟨(some 42), (some (34, false)), .len (.t 41)⟩,
       ⟨(some 43), (some (34, false)), .bin .geq (.t 35) (.t 42)⟩,
       ⟨(some 44), none, .pick (.t 34) (.c (.sc (.bool true))) (.t 43)⟩])
     (.cond (.t 44)
      (.exit 1)
      (.skip)))
     (.seq (.ops [⟨(some 45), none, .faddr 21 (.t 13)⟩,
       ⟨(some 46), none, .load none (.t 45)⟩,
       ⟨(some 47), none, .move (.t 1)⟩,
       ⟨(some 48), none, .iaddrS 2 (.t 46) (.t 47)⟩,
       ⟨(some 49), none, .faddr 1 (.t 48)⟩,
       ⟨(some 50), none, .load none (.t 49)⟩,
       ⟨(some 51), none, .move (.t 2)⟩,
       ⟨(some 52), none, .iaddrS 2 (.t 50) (.t 51)⟩,
       ⟨(some 53), none, .faddr 0 (.t 52)⟩,
       ⟨(some 54), none, .load none (.t 53)⟩,
       ⟨(some 55), none, .len (.t 54)⟩,
       ⟨(some 56), none, .move (.c (.sc (.int .i64 (0))))⟩])
     (.block 2 (.loop (.seq (.ops [⟨(some 57), none, .bin .lss (.t 56) (.t 55)⟩])
       (.seq (.cond (.t 57)
        (.skip)
        (.exit 2))
       (.seq (.block 3 (.seq (.ops [⟨(some 58), none, .move (.t 56)⟩,
          ⟨(some 59), none, .iaddrS 13 (.t 54) (.t 56)⟩,
          ⟨(some 60), none, .load (some 13) (.t 59)⟩,
          ⟨(some 15), none, .alloc [(.sc (.int .i64 (0))), (.sc (.int .i64 (0))), (.sc (.int .i64 (0))), (.sc (.int .i64 (0))), (.sc (.int .i64 (0))), (.sl true .full 0 []), (.sl true .full 0 []), (.sc (.int .i64 (0))), (.sc (.int .i64 (0))), (.sc (.int .i64 (0))), (.sl true .full 0 []), (.sc (.int .i64 (0))), (.sc (.int .i64 (0)))]⟩,
          ⟨(some 14), none, .move (.t 58)⟩,
          ⟨none, none, .store 13 (.t 15) (.t 60)⟩])
        (.seq (.seq (.ops [⟨(some 61), none, .load (some 13) (.t 15)⟩,
          ⟨(some 62), none, .move (.t 3)⟩,
          ⟨(some 63), none, .call (.c (.fn (.func 280) [] [])) [(.t 61), (.t 62)]⟩])
        (.cond (.t 63)
         (.exit 3)
         (.skip)))
        (.seq (.draw [⟨false, [1], [], ⟨(some 64), none, .move (.t 1)⟩⟩,
          ⟨false, [12], [], ⟨(some 65), none, .move (.t 12)⟩⟩,
          ⟨false, [2], [], ⟨(some 66), none, .move (.t 2)⟩⟩,
          ⟨false, [14], [], ⟨(some 67), none, .move (.t 14)⟩⟩,
          ⟨false, [64, 65, 66, 67], [], ⟨(some 68), none, .build [(.sc (.int .i64 (0))), (.sc (.int .i64 (0))), (.sc (.int .i64 (0))), (.sc (.int .i64 (0))), (.sc (.int .i64 (0))), (.sc (.int .i64 (0))), (.sc (.int .i64 (0)))] [((0, 1), (.c (.sc (.int .i64 (4))))), ((2, 1), (.t 64)), ((3, 1), (.t 65)), ((4, 1), (.t 66)), ((5, 1), (.t 67))]⟩⟩,
          ⟨false, [15], [], ⟨(some 69), none, .faddr 10 (.t 15)⟩⟩,
          ⟨false, [69], [12], ⟨(some 70), none, .load none (.t 69)⟩⟩,
          ⟨false, [3], [], ⟨(some 71), none, .move (.t 3)⟩⟩,
          ⟨false, [70, 71], [], ⟨(some 72), none, .iaddrS 2 (.t 70) (.t 71)⟩⟩,
          ⟨false, [72], [12], ⟨(some 73), none, .load (some 2) (.t 72)⟩⟩,
          ⟨false, [], [], ⟨(some 16), none, .alloc [(.sc (.int .i64 (0))), (.sc (.int .i64 (0))), (.sc (.int .i64 (0))), (.sc (.int .i64 (0))), (.sc (.int .i64 (0))), (.sc (.int .i64 (0))), (.sc (.int .i64 (0)))]⟩⟩,
          ⟨false, [], [], ⟨(some 17), none, .alloc [(.sc (.string ⟨#[]⟩)), (.sc (.int .i64 (0)))]⟩⟩,
          ⟨true, [16, 68], [], ⟨none, none, .store 7 (.t 16) (.t 68)⟩⟩]
          [⟨none, none, .store 2 (.t 17) (.t 73)⟩])
        (.seq (.seq (.ops [⟨(some 74), none, .faddr 1 (.t 10)⟩,
          ⟨(some 75), none, .load none (.t 74)⟩,
          ⟨(some 76), none, .bin .eql (.t 75) (.c (.sc (.int .i64 (1))))⟩,
          ⟨(some 77), none, .move (.t 76)⟩,
          ⟨(some 78), (some (77, true)), .faddr 0 (.t 17)⟩,
          ⟨(some 79), (some (77, true)), .load none (.t 78)⟩,
          ⟨(some 80), (some (77, true)), .bin .eql (.t 79) (.c (.sc (.string ⟨#[]⟩)))⟩,
          ⟨(some 81), none, .pick (.t 77) (.t 80) (.c (.sc (.bool false)))⟩])
        (.cond (.t 81)
         (.ops [⟨(some 82), none, .move (.t 4)⟩,
           ⟨(some 83), none, .load (some 7) (.t 11)⟩,
           ⟨none, none, .mapUp [.i, .i, .i, .i, .i, .i, .i] true (.t 82) (.t 83) (.c (.sc (.bool true)))⟩])
         (.skip)))
        (.seq (.seq (.ops [⟨(some 84), none, .faddr 0 (.t 17)⟩,
          ⟨(some 85), none, .load none (.t 84)⟩,
          ⟨(some 86), none, .bin .eql (.t 85) (.c (.sc (.string ⟨#[]⟩)))⟩,
          ⟨(some 87), none, .move (.t 86)⟩,
          ⟨(some 88), (some (87, true)), .faddr 1 (.t 17)⟩,
          ⟨(some 89), (some (87, true)), .load none (.t 88)⟩,
          ⟨(some 90), (some (87, true)), .bin .eql (.t 89) (.c (.sc (.int .i64 (2))))⟩,
          ⟨(some 91), none, .pick (.t 87) (.t 90) (.c (.sc (.bool false)))⟩,
          ⟨(some 92), none, .move (.t 91)⟩,
          ⟨(some 93), (some (92, true)), .faddr 1 (.t 10)⟩,
          ⟨(some 94), (some (92, true)), .load none (.t 93)⟩,
          ⟨(some 95), (some (92, true)), .bin .neq (.t 94) (.c (.sc (.int .i64 (2))))⟩,
          ⟨(some 96), none, .pick (.t 92) (.t 95) (.c (.sc (.bool false)))⟩])
        (.cond (.t 96)
         (.ops [⟨(some 97), none, .move (.t 4)⟩,
           ⟨(some 98), none, .load (some 7) (.t 16)⟩,
           ⟨none, none, .mapUp [.i, .i, .i, .i, .i, .i, .i] true (.t 97) (.t 98) (.c (.sc (.bool true)))⟩])
         (.skip)))
        (.draw [⟨false, [17], [], ⟨(some 99), none, .load (some 2) (.t 17)⟩⟩,
          ⟨false, [16], [2], ⟨(some 100), none, .load (some 7) (.t 16)⟩⟩,
          ⟨true, [10, 99], [], ⟨none, none, .store 2 (.t 10) (.t 99)⟩⟩]
          [⟨none, none, .store 7 (.t 11) (.t 100)⟩])))))))
       (.ops [⟨(some 101), none, .bin .add (.t 56) (.c (.sc (.int .i64 (1))))⟩,
         ⟨(some 56), none, .move (.t 101)⟩]))))))))))
    (.ops [⟨(some 102), none, .bin .add (.t 24) (.c (.sc (.int .i64 (1))))⟩,
      ⟨(some 24), none, .move (.t 102)⟩])))))))
  (.seq (.ops [⟨(some 103), none, .faddr 1 (.t 10)⟩,
    ⟨(some 104), none, .load none (.t 103)⟩,
    ⟨(some 105), none, .bin .eql (.t 104) (.c (.sc (.int .i64 (1))))⟩])
  (.cond (.t 105)
   (.ops [⟨(some 106), none, .move (.t 4)⟩,
     ⟨(some 107), none, .load (some 7) (.t 11)⟩,
     ⟨none, none, .mapUp [.i, .i, .i, .i, .i, .i, .i] true (.t 106) (.t 107) (.c (.sc (.bool true)))⟩])
   (.skip))))),
  []⟩
theorem ok193 : EntryOk Tryz.prog 193 af193 := ⟨Tryz.f193, _, Tryz.func193, by decide, rfl, by kernel_rfl, by kernel_rfl, rfl⟩
/-- (hemiola/check.group).read -/
noncomputable def af198 : AF := ⟨37, .seq (.ops [⟨(some 2), none, .box (.t 0)⟩,
    ⟨(some 3), none, .box (.t 1)⟩,
    ⟨(some 4), none, .alloc [(.sc (.bool false)), (.sc (.int .i64 (0))), (.sc (.int .i64 (0))), (.sc (.int .i64 (0))), (.sc (.bool false)), (.sc (.int .i64 (0)))]⟩,
    ⟨(some 5), none, .move (.c (.sc (.bool false)))⟩])
  (.seq (.seq (.ops [⟨(some 6), none, .faddr 14 (.t 3)⟩,
    ⟨(some 7), none, .load none (.t 6)⟩,
    ⟨(some 8), none, .bin .neq (.t 7) (.c (.sc (.int .i64 (0))))⟩])
  (.cond (.t 8)
   (.seq (.ops [⟨(some 9), none, .load (some 6) (.t 2)⟩,
     ⟨(some 10), none, .load (some 22) (.t 3)⟩,
     ⟨(some 11), none, .call (.c (.fn (.func 289) [] [])) [(.t 9), (.t 10)]⟩,
     ⟨(some 12), none, .extract 0 (.t 11)⟩,
     ⟨(some 13), none, .extract 1 (.t 11)⟩,
     ⟨none, none, .store 6 (.t 4) (.t 12)⟩,
     ⟨(some 5), none, .move (.t 13)⟩])
   (.ret))
   (.skip)))
  (.seq (.seq (.ops [⟨(some 14), none, .faddr 3 (.t 2)⟩,
    ⟨(some 15), none, .load none (.t 14)⟩,
    ⟨(some 16), none, .bin .neq (.t 15) (.c (.sc (.int .i64 (0))))⟩])
  (.cond (.t 16)
   (.seq (.seq (.ops [⟨(some 17), none, .load (some 6) (.t 2)⟩,
     ⟨(some 18), none, .call (.c (.fn (.func 199) [] [])) [(.t 17)]⟩,
     ⟨(some 19), none, .un .not (.t 18)⟩])
   (.cond (.t 19)
    (.seq (.ops [⟨(some 20), none, .load (some 6) (.t 2)⟩,
      ⟨none, none, .store 6 (.t 4) (.t 20)⟩,
      ⟨(some 5), none, .move (.c (.sc (.bool false)))⟩])
    (.ret))
    (.skip)))
   (.ops [⟨(some 21), none, .build [(.sc (.bool false)), (.sc (.int .i64 (0))), (.sc (.int .i64 (0))), (.sc (.int .i64 (0))), (.sc (.bool false)), (.sc (.int .i64 (0)))] []⟩,
     ⟨none, none, .store 6 (.t 2) (.t 21)⟩]))
   (.skip)))
  (.seq (.seq (.ops [⟨(some 22), none, .faddr 12 (.t 3)⟩,
    ⟨(some 23), none, .load none (.t 22)⟩])
  (.cond (.t 23)
   (.seq (.seq (.ops [⟨(some 24), none, .faddr 0 (.t 2)⟩,
     ⟨(some 25), none, .load none (.t 24)⟩])
   (.cond (.t 25)
    (.seq (.ops [⟨(some 26), none, .load (some 6) (.t 2)⟩,
      ⟨none, none, .store 6 (.t 4) (.t 26)⟩,
      ⟨(some 5), none, .move (.c (.sc (.bool false)))⟩])
    (.ret))
    (.skip)))
   (.ops [⟨(some 27), none, .build [(.sc (.bool false)), (.sc (.int .i64 (0))), (.sc (.int .i64 (0))), (.sc (.int .i64 (0))), (.sc (.bool false)), (.sc (.int .i64 (0)))] [((0, 1), (.c (.sc (.bool true))))]⟩,
     ⟨none, none, .store 6 (.t 2) (.t 27)⟩]))
   (.skip)))
  (.seq (.ops [⟨(some 28), none, .faddr 1 (.t 2)⟩,
    ⟨(some 29), none, .load none (.t 28)⟩,
    ⟨(some 30), none, .bin .add (.t 29) (.c (.sc (.int .i64 (1))))⟩,
    ⟨(some 31), none, .faddr 1 (.t 2)⟩,
    ⟨none, none, .store 1 (.t 31) (.t 30)⟩])
  (.seq (.seq (.ops [⟨(some 32), none, .faddr 13 (.t 3)⟩,
    ⟨(some 33), none, .load none (.t 32)⟩,
    ⟨(some 34), none, .bin .neq (.t 33) (.c (.sc (.int .i64 (0))))⟩])
  (.cond (.t 34)
   (.ops [⟨(some 35), none, .build [(.sc (.bool false)), (.sc (.int .i64 (0))), (.sc (.int .i64 (0))), (.sc (.int .i64 (0))), (.sc (.bool false)), (.sc (.int .i64 (0)))] []⟩,
     ⟨none, none, .store 6 (.t 2) (.t 35)⟩])
   (.skip)))
  (.seq (.ops [⟨(some 36), none, .load (some 6) (.t 2)⟩,
    ⟨none, none, .store 6 (.t 4) (.t 36)⟩,
    ⟨(some 5), none, .move (.c (.sc (.bool true)))⟩])
  (.ret))))))),
  [.c 4 (some 6), .t 5]⟩
theorem ok198 : EntryOk Tryz.prog 198 af198 := ⟨Tryz.f198, _, Tryz.func198, by decide, rfl, by kernel_rfl, by kernel_rfl, rfl⟩
/-- (*hemiola/check.checker).tempi$1 -/
noncomputable def af204 : AF := ⟨71, .seq (.ops [⟨(some 3), none, .box (.t 1)⟩,
    ⟨(some 4), none, .move (.c (.sc (.bool false)))⟩])
  (.seq (.ops [⟨(some 11), none, .load (some 22) (.t 3)⟩,
    ⟨(some 12), none, .call (.c (.fn (.func 55) [] [])) [(.t 11)]⟩,
    ⟨(some 10), none, .move (.t 12)⟩,
    ⟨(some 13), none, .extract 0 (.t 10)⟩,
    ⟨(some 14), none, .extract 1 (.t 10)⟩,
    ⟨(some 5), none, .move (.t 13)⟩,
    ⟨(some 6), none, .move (.t 14)⟩])
  (.seq (.ops [⟨(some 15), none, .faddr 17 (.t 3)⟩,
    ⟨(some 16), none, .load none (.t 15)⟩,
    ⟨(some 17), none, .bin .neq (.t 16) (.c (.sc (.int .i64 (0))))⟩,
    ⟨(some 18), none, .move (.t 17)⟩,
    ⟨(some 19), (some (18, true)), .faddr 17 (.t 3)⟩,
    ⟨(some 20), (some (18, true)), .load none (.t 19)⟩,
    ⟨(some 21), (some (18, true)), .call (.c (.fn (.func 166) [] [])) [(.t 20), (.c (.sc (.int .i64 (50)))), (.c (.sc (.int .i64 (75))))]⟩,
    ⟨(some 22), (some (18, true)), .un .not (.t 21)⟩,
    ⟨(some 23), none, .pick (.t 18) (.t 22) (.c (.sc (.bool false)))⟩,
    ⟨(some 24), none, .move (.t 23)⟩,
    ⟨(some 25), (some (24, false)), .faddr 18 (.t 3)⟩,
    ⟨(some 26), (some (24, false)), .load none (.t 25)⟩,
    ⟨(some 27), (some (24, false)), .call (.c (.fn (.func 166) [] [])) [(.t 26), (.c (.sc (.int .i64 (0)))), (.c (.sc (.int .i64 (3))))]⟩,
    ⟨(some 28), (some (24, false)), .un .not (.t 27)⟩,
    ⟨(some 29), none, .pick (.t 24) (.c (.sc (.bool true))) (.t 28)⟩,
    ⟨(some 7), none, .move (.t 29)⟩])
  (.seq (.seq (.ops [⟨(some 30), none, .faddr 20 (.t 3)⟩,
    ⟨(some 31), none, .load none (.t 30)⟩,
    ⟨(some 32), none, .len (.t 31)⟩,
    ⟨(some 33), none, .move (.c (.sc (.int .i64 (0))))⟩])
  (.block 0 (.loop (.seq (.ops [⟨(some 34), none, .bin .lss (.t 33) (.t 32)⟩])
    (.seq (.cond (.t 34)
     (.skip)
     (.exit 0))
    (.seq (.block 1 (.seq (.ops [⟨(some 35), none, .move (.t 33)⟩,
       ⟨(some 36), none, .iaddrS 3 (.t 31) (.t 33)⟩,
       ⟨(some 37), none, .load (some 3) (.t 36)⟩,
       ⟨(some 9), none, .alloc [(.sc (.int .i64 (0))), (.sc (.int .i64 (0))), (.sc (.bool false))]⟩,
       ⟨(some 8), none, .move (.t 35)⟩,
       ⟨none, none, .store 3 (.t 9) (.t 37)⟩])
     (.draw [⟨true, [7], [], ⟨(some 38), none, .move (.t 7)⟩⟩,
       ⟨true, [38], [], ⟨(some 39), none, .move (.t 38)⟩⟩,
       ⟨true, [9, 39], [], ⟨(some 40), (some (39, false)), .faddr 0 (.t 9)⟩⟩,
       ⟨true, [40, 39], [], ⟨(some 41), (some (39, false)), .load none (.t 40)⟩⟩,
       ⟨false, [5, 39], [], ⟨(some 42), (some (39, false)), .move (.t 5)⟩⟩,
       ⟨false, [42, 39], [], ⟨(some 43), (some (39, false)), .bin .sub (.t 42) (.c (.sc (.int .i64 (1))))⟩⟩,
       ⟨true, [41, 43, 39], [], ⟨(some 44), (some (39, false)), .call (.c (.fn (.func 166) [] [])) [(.t 41), (.c (.sc (.int .i64 (0)))), (.t 43)]⟩⟩,
       ⟨true, [44, 39], [], ⟨(some 45), (some (39, false)), .un .not (.t 44)⟩⟩,
       ⟨true, [39, 45], [], ⟨(some 46), none, .pick (.t 39) (.c (.sc (.bool true))) (.t 45)⟩⟩,
       ⟨true, [46], [], ⟨(some 47), none, .move (.t 46)⟩⟩,
       ⟨true, [9, 47], [], ⟨(some 48), (some (47, false)), .faddr 1 (.t 9)⟩⟩,
       ⟨true, [48, 47], [], ⟨(some 49), (some (47, false)), .load none (.t 48)⟩⟩,
       ⟨true, [49, 47], [], ⟨(some 50), (some (47, false)), .call (.c (.fn (.func 166) [] [])) [(.t 49), (.c (.sc (.int .i64 (1)))), (.c (.sc (.int .i64 (60000000))))]⟩⟩,
       ⟨true, [50, 47], [], ⟨(some 51), (some (47, false)), .un .not (.t 50)⟩⟩,
       ⟨true, [47, 51], [], ⟨(some 52), none, .pick (.t 47) (.c (.sc (.bool true))) (.t 51)⟩⟩,
       ⟨true, [52], [], ⟨(some 53), none, .move (.t 52)⟩⟩,
       ⟨true, [8, 53], [], ⟨(some 54), (some (53, false)), .move (.t 8)⟩⟩,
       ⟨true, [54, 53], [], ⟨(some 55), (some (53, false)), .bin .gtr (.t 54) (.c (.sc (.int .i64 (0))))⟩⟩,
       ⟨true, [55, 53], [], ⟨(some 56), (some (53, false)), .move (.t 55)⟩⟩,
       ⟨false, [9, 56], [], ⟨(some 57), (some (56, true)), .faddr 0 (.t 9)⟩⟩,
       ⟨false, [57, 56], [], ⟨(some 58), (some (56, true)), .load none (.t 57)⟩⟩,
       ⟨false, [3, 56], [], ⟨(some 59), (some (56, true)), .faddr 20 (.t 3)⟩⟩,
       ⟨false, [59, 56], [], ⟨(some 60), (some (56, true)), .load none (.t 59)⟩⟩,
       ⟨false, [8, 56], [], ⟨(some 61), (some (56, true)), .move (.t 8)⟩⟩,
       ⟨false, [61, 56], [], ⟨(some 62), (some (56, true)), .bin .sub (.t 61) (.c (.sc (.int .i64 (1))))⟩⟩,
       ⟨false, [60, 62, 56], [], ⟨(some 63), (some (56, true)), .iaddrS 3 (.t 60) (.t 62)⟩⟩,
       ⟨false, [63, 56], [], ⟨(some 64), (some (56, true)), .faddr 0 (.t 63)⟩⟩,
       ⟨false, [64, 56], [], ⟨(some 65), (some (56, true)), .load none (.t 64)⟩⟩]
       [⟨(some 66), (some (56, true)), .bin .leq (.t 58) (.t 65)⟩,
       ⟨(some 67), (some (53, false)), .pick (.t 56) (.t 66) (.c (.sc (.bool false)))⟩,
       ⟨(some 68), none, .pick (.t 53) (.c (.sc (.bool true))) (.t 67)⟩,
       ⟨(some 7), none, .move (.t 68)⟩])))
    (.ops [⟨(some 69), none, .bin .add (.t 33) (.c (.sc (.int .i64 (1))))⟩,
      ⟨(some 33), none, .move (.t 69)⟩])))))))
  (.seq (.ops [⟨(some 70), none, .move (.t 7)⟩,
    ⟨(some 4), none, .move (.t 70)⟩])
  (.ret))))),
  [.t 4]⟩
theorem ok204 : EntryOk Tryz.prog 204 af204 := ⟨Tryz.f204, _, Tryz.func204, by decide, rfl, by kernel_rfl, by kernel_rfl, rfl⟩
/-- (*hemiola/timeline.line).event -/
noncomputable def af212 : AF := ⟨103, .seq (.ops [⟨(some 5), none, .box (.t 1)⟩])
  (.seq (.ops [⟨(some 16), none, .mkMap⟩,
    ⟨(some 8), none, .move (.t 16)⟩])
  (.seq (.seq (.ops [⟨(some 17), none, .faddr 5 (.t 5)⟩,
    ⟨(some 18), none, .load none (.t 17)⟩,
    ⟨(some 19), none, .len (.t 18)⟩,
    ⟨(some 20), none, .move (.c (.sc (.int .i64 (0))))⟩])
  (.block 0 (.loop (.seq (.ops [⟨(some 21), none, .bin .lss (.t 20) (.t 19)⟩])
    (.seq (.cond (.t 21)
     (.skip)
     (.exit 0))
    (.seq (.block 1 (.seq (.ops [⟨(some 22), none, .move (.t 20)⟩,
       ⟨(some 23), none, .iaddrS 5 (.t 18) (.t 20)⟩,
       ⟨(some 24), none, .load (some 5) (.t 23)⟩,
       ⟨(some 10), none, .alloc [(.sc (.int .i64 (0))), (.sc (.int .i64 (0))), (.sc (.int .i64 (0))), (.sc (.bool false)), (.sc (.int .i64 (0)))]⟩,
       ⟨(some 9), none, .move (.t 22)⟩,
       ⟨none, none, .store 5 (.t 10) (.t 24)⟩])
     (.seq (.draw [⟨false, [0], [], ⟨(some 26), none, .move (.t 0)⟩⟩,
       ⟨false, [26], [], ⟨(some 27), none, .nilCheck (.t 26)⟩⟩,
       ⟨false, [27], [], ⟨(some 28), none, .faddr 1 (.t 27)⟩⟩,
       ⟨false, [28], [], ⟨(some 29), none, .load none (.t 28)⟩⟩,
       ⟨false, [10], [], ⟨(some 30), none, .faddr 0 (.t 10)⟩⟩,
       ⟨false, [30], [], ⟨(some 31), none, .load (some 3) (.t 30)⟩⟩,
       ⟨true, [29, 31], [], ⟨(some 32), none, .lookup [.i, .i, .i] true (.sc (.int .i64 (0))) (.t 29) (.t 31) true⟩⟩,
       ⟨true, [32], [], ⟨(some 25), none, .move (.t 32)⟩⟩,
       ⟨true, [25], [], ⟨(some 33), none, .extract 0 (.t 25)⟩⟩,
       ⟨true, [25], [], ⟨(some 34), none, .extract 1 (.t 25)⟩⟩,
       ⟨true, [33], [], ⟨(some 11), none, .move (.t 33)⟩⟩]
       [⟨(some 12), none, .move (.t 34)⟩])
     (.seq (.seq (.ops [⟨(some 35), none, .move (.t 12)⟩,
       ⟨(some 36), none, .un .not (.t 35)⟩])
     (.cond (.t 36)
      (.seq (.ops [⟨(some 38), none, .faddr 0 (.t 10)⟩,
        ⟨(some 39), none, .load (some 3) (.t 38)⟩,
        ⟨(some 40), none, .call (.c (.fn (.func 134) [] [])) [(.t 39)]⟩,
        ⟨(some 37), none, .move (.t 40)⟩,
        ⟨(some 41), none, .extract 0 (.t 37)⟩,
        ⟨(some 42), none, .extract 1 (.t 37)⟩,
        ⟨(some 13), none, .move (.t 41)⟩,
        ⟨(some 14), none, .move (.t 42)⟩])
      (.seq (.ops [⟨(some 43), none, .move (.t 0)⟩,
        ⟨(some 44), none, .nilCheck (.t 43)⟩,
        ⟨(some 45), none, .faddr 2 (.t 44)⟩,
        ⟨(some 46), none, .load (some 9) (.t 45)⟩,
        ⟨(some 15), none, .alloc [(.sc (.int .i64 (0))), (.sc (.int .i64 (0))), (.sc (.int .i64 (0))), (.sc (.int .i64 (0))), (.sc (.int .i64 (0))), (.sc (.int .i64 (0))), (.sc (.int .i64 (0))), (.sc (.int .i64 (0))), (.sc (.int .i64 (0)))]⟩,
        ⟨none, none, .store 9 (.t 15) (.t 46)⟩])
      (.seq (.draw [⟨false, [2], [], ⟨(some 47), none, .move (.t 2)⟩⟩,
        ⟨false, [13], [], ⟨(some 48), none, .move (.t 13)⟩⟩,
        ⟨false, [0], [], ⟨(some 49), none, .move (.t 0)⟩⟩,
        ⟨false, [49], [], ⟨(some 50), none, .nilCheck (.t 49)⟩⟩,
        ⟨false, [50], [], ⟨(some 51), none, .faddr 11 (.t 50)⟩⟩,
        ⟨false, [51], [11], ⟨(some 52), none, .load none (.t 51)⟩⟩,
        ⟨false, [48, 52], [], ⟨(some 53), none, .bin .sub (.t 48) (.t 52)⟩⟩,
        ⟨false, [5], [], ⟨(some 54), none, .faddr 0 (.t 5)⟩⟩,
        ⟨false, [54], [11, 13], ⟨(some 55), none, .load (some 2) (.t 54)⟩⟩,
        ⟨false, [9], [], ⟨(some 56), none, .move (.t 9)⟩⟩,
        ⟨false, [15], [], ⟨(some 57), none, .faddr 0 (.t 15)⟩⟩,
        ⟨true, [57, 47], [], ⟨none, none, .store 1 (.t 57) (.t 47)⟩⟩,
        ⟨false, [15], [], ⟨(some 58), none, .faddr 2 (.t 15)⟩⟩,
        ⟨true, [58, 53], [], ⟨none, none, .store 1 (.t 58) (.t 53)⟩⟩,
        ⟨true, [15], [], ⟨(some 59), none, .faddr 6 (.t 15)⟩⟩,
        ⟨true, [59, 55], [], ⟨none, none, .store 2 (.t 59) (.t 55)⟩⟩]
        [⟨(some 60), none, .faddr 8 (.t 15)⟩,
        ⟨none, none, .store 1 (.t 60) (.t 56)⟩])
      (.seq (.ops [⟨(some 61), none, .move (.t 0)⟩,
        ⟨(some 62), none, .nilCheck (.t 61)⟩,
        ⟨(some 63), none, .faddr 0 (.t 62)⟩,
        ⟨(some 64), none, .load none (.t 63)⟩,
        ⟨(some 65), none, .nilCheck (.t 64)⟩,
        ⟨(some 66), none, .load none (.t 65)⟩,
        ⟨(some 67), none, .len (.t 66)⟩,
        ⟨(some 11), none, .move (.t 67)⟩])
      (.draw [⟨false, [0], [], ⟨(some 68), none, .move (.t 0)⟩⟩,
        ⟨false, [68], [], ⟨(some 69), none, .nilCheck (.t 68)⟩⟩,
        ⟨false, [69], [], ⟨(some 70), none, .faddr 0 (.t 69)⟩⟩,
        ⟨false, [70], [12], ⟨(some 71), none, .load none (.t 70)⟩⟩,
        ⟨false, [0], [], ⟨(some 72), none, .move (.t 0)⟩⟩,
        ⟨false, [72], [], ⟨(some 73), none, .nilCheck (.t 72)⟩⟩,
        ⟨false, [73], [], ⟨(some 74), none, .faddr 0 (.t 73)⟩⟩,
        ⟨false, [74], [], ⟨(some 75), none, .load none (.t 74)⟩⟩,
        ⟨false, [75], [], ⟨(some 76), none, .nilCheck (.t 75)⟩⟩,
        ⟨false, [76], [], ⟨(some 77), none, .load none (.t 76)⟩⟩,
        ⟨false, [15], [], ⟨(some 78), none, .load (some 9) (.t 15)⟩⟩,
        ⟨false, [78], [], ⟨(some 79), none, .buildSl 9 [(.t 78)]⟩⟩,
        ⟨true, [77, 79], [], ⟨(some 80), none, .appendM 9 72 (.t 77) (.t 79)⟩⟩]
        [⟨(some 81), none, .nilCheck (.t 71)⟩,
        ⟨none, none, .store 1 (.t 81) (.t 80)⟩])))))
      (.skip)))
     (.seq (.ops [⟨(some 82), none, .move (.t 0)⟩,
       ⟨(some 83), none, .nilCheck (.t 82)⟩,
       ⟨(some 84), none, .faddr 0 (.t 83)⟩,
       ⟨(some 85), none, .load none (.t 84)⟩,
       ⟨(some 86), none, .nilCheck (.t 85)⟩,
       ⟨(some 87), none, .load none (.t 86)⟩,
       ⟨(some 88), none, .move (.t 11)⟩,
       ⟨(some 89), none, .move (.t 3)⟩,
       ⟨(some 90), none, .iaddrS 9 (.t 87) (.t 88)⟩,
       ⟨(some 91), none, .faddr 1 (.t 90)⟩,
       ⟨none, none, .store 1 (.t 91) (.t 89)⟩])
     (.seq (.ops [⟨(some 92), none, .faddr 3 (.t 10)⟩,
       ⟨(some 93), none, .load none (.t 92)⟩])
     (.cond (.t 93)
      (.ops [⟨(some 94), none, .move (.t 8)⟩,
        ⟨(some 95), none, .faddr 0 (.t 10)⟩,
        ⟨(some 96), none, .load (some 3) (.t 95)⟩,
        ⟨(some 97), none, .move (.t 11)⟩,
        ⟨none, none, .mapUp [.i, .i, .i] true (.t 94) (.t 96) (.t 97)⟩])
      (.skip))))))))
    (.ops [⟨(some 98), none, .bin .add (.t 20) (.c (.sc (.int .i64 (1))))⟩,
      ⟨(some 20), none, .move (.t 98)⟩])))))))
  (.ops [⟨(some 99), none, .move (.t 0)⟩,
    ⟨(some 100), none, .move (.t 8)⟩,
    ⟨(some 101), none, .nilCheck (.t 99)⟩,
    ⟨(some 102), none, .faddr 1 (.t 101)⟩,
    ⟨none, none, .store 1 (.t 102) (.t 100)⟩]))),
  []⟩
theorem ok212 : EntryOk Tryz.prog 212 af212 := ⟨Tryz.f212, _, Tryz.func212, by decide, rfl, by kernel_rfl, by kernel_rfl, rfl⟩
/-- hemiola/tempo.integral -/
noncomputable def af216 : AF := ⟨51, .seq (.ops [⟨(some 8), none, .move (.c (.sc (.int .i64 (0))))⟩])
  (.seq (.ops [⟨(some 16), none, .move (.t 0)⟩,
    ⟨(some 17), none, .move (.t 2)⟩,
    ⟨(some 18), none, .bin .mul (.c (.sc (.int .i64 (2)))) (.t 17)⟩,
    ⟨(some 19), none, .move (.t 3)⟩,
    ⟨(some 20), none, .bin .sub (.t 18) (.t 19)⟩,
    ⟨(some 21), none, .move (.t 1)⟩,
    ⟨(some 22), none, .move (.t 3)⟩,
    ⟨(some 23), none, .call (.c (.fn (.func 299) [] [])) [(.t 16), (.t 20), (.t 21), (.t 22)]⟩,
    ⟨(some 15), none, .move (.t 23)⟩,
    ⟨(some 24), none, .extract 0 (.t 15)⟩,
    ⟨(some 25), none, .extract 1 (.t 15)⟩,
    ⟨(some 9), none, .move (.t 24)⟩,
    ⟨(some 10), none, .move (.t 25)⟩])
  (.seq (.ops [⟨(some 27), none, .move (.t 10)⟩,
    ⟨(some 28), none, .move (.t 3)⟩,
    ⟨(some 29), none, .convI .u64 (.t 28)⟩,
    ⟨(some 30), none, .call (.c (.fn (.func 300) [] [])) [(.t 27), (.t 29)]⟩,
    ⟨(some 26), none, .move (.t 30)⟩,
    ⟨(some 31), none, .extract 0 (.t 26)⟩,
    ⟨(some 32), none, .extract 1 (.t 26)⟩,
    ⟨(some 11), none, .move (.t 31)⟩,
    ⟨(some 12), none, .move (.t 32)⟩])
  (.seq (.ops [⟨(some 33), none, .move (.t 11)⟩,
    ⟨(some 34), none, .move (.t 9)⟩,
    ⟨(some 35), none, .move (.t 3)⟩,
    ⟨(some 36), none, .convI .u64 (.t 35)⟩,
    ⟨(some 37), none, .bin .mul (.t 34) (.t 36)⟩,
    ⟨(some 38), none, .bin .add (.t 33) (.t 37)⟩,
    ⟨(some 11), none, .move (.t 38)⟩])
  (.seq (.ops [⟨(some 40), none, .move (.t 11)⟩,
    ⟨(some 41), none, .move (.t 12)⟩,
    ⟨(some 42), none, .move (.t 2)⟩,
    ⟨(some 43), none, .bin .mul (.c (.sc (.int .i64 (2)))) (.t 42)⟩,
    ⟨(some 44), none, .convI .u64 (.t 43)⟩,
    ⟨(some 45), none, .bin .mul (.t 44) (.c (.sc (.int .u64 (483840))))⟩,
    ⟨(some 46), none, .call (.c (.fn (.func 301) [] [])) [(.t 40), (.t 41), (.t 45)]⟩,
    ⟨(some 39), none, .move (.t 46)⟩,
    ⟨(some 47), none, .extract 0 (.t 39)⟩,
    ⟨(some 48), none, .extract 1 (.t 39)⟩,
    ⟨(some 13), none, .move (.t 47)⟩,
    ⟨(some 14), none, .move (.t 48)⟩])
  (.seq (.ops [⟨(some 49), none, .move (.t 13)⟩,
    ⟨(some 50), none, .convI .i64 (.t 49)⟩,
    ⟨(some 8), none, .move (.t 50)⟩])
  (.ret)))))),
  [.t 8]⟩
theorem ok216 : EntryOk Tryz.prog 216 af216 := ⟨Tryz.f216, _, Tryz.func216, by decide, rfl, by kernel_rfl, by kernel_rfl, rfl⟩
/-- hemiola/voice.total -/
noncomputable def af220 : AF := ⟨17, .seq (.ops [⟨(some 2), none, .move (.c (.sc (.int .i64 (0))))⟩])
  (.seq (.ops [⟨(some 3), none, .move (.c (.sc (.int .i64 (0))))⟩])
  (.seq (.seq (.ops [⟨(some 6), none, .move (.t 0)⟩,
    ⟨(some 7), none, .len (.t 6)⟩,
    ⟨(some 8), none, .move (.c (.sc (.int .i64 (0))))⟩])
  (.block 0 (.loop (.seq (.ops [⟨(some 9), none, .bin .lss (.t 8) (.t 7)⟩])
    (.seq (.cond (.t 9)
     (.skip)
     (.exit 0))
    (.seq (.block 1 (.seq (.ops [⟨(some 10), none, .iaddrS 1 (.t 6) (.t 8)⟩,
       ⟨(some 11), none, .load none (.t 10)⟩,
       ⟨(some 5), none, .move (.t 11)⟩])
     (.ops [⟨(some 12), none, .move (.t 3)⟩,
       ⟨(some 13), none, .move (.t 5)⟩,
       ⟨(some 14), none, .bin .add (.t 12) (.t 13)⟩,
       ⟨(some 3), none, .move (.t 14)⟩])))
    (.ops [⟨(some 15), none, .bin .add (.t 8) (.c (.sc (.int .i64 (1))))⟩,
      ⟨(some 8), none, .move (.t 15)⟩])))))))
  (.seq (.ops [⟨(some 16), none, .move (.t 3)⟩,
    ⟨(some 2), none, .move (.t 16)⟩])
  (.ret)))),
  [.t 2]⟩
theorem ok220 : EntryOk Tryz.prog 220 af220 := ⟨Tryz.f220, _, Tryz.func220, by decide, rfl, by kernel_rfl, by kernel_rfl, rfl⟩
/-- hemiola/pitch.Check -/
noncomputable def af224 : AF := ⟨40, .seq (.ops [⟨(some 1), none, .box (.t 0)⟩,
    ⟨(some 2), none, .move (.c (.sc (.int .i64 (0))))⟩])
  (.seq (.seq (.ops [⟨(some 4), none, .faddr 0 (.t 1)⟩,
    ⟨(some 5), none, .load none (.t 4)⟩,
    ⟨(some 6), none, .bin .lss (.t 5) (.c (.sc (.int .i64 (0))))⟩,
    ⟨(some 7), none, .move (.t 6)⟩,
    ⟨(some 8), (some (7, false)), .faddr 0 (.t 1)⟩,
    ⟨(some 9), (some (7, false)), .load none (.t 8)⟩,
    ⟨(some 10), (some (7, false)), .bin .gtr (.t 9) (.c (.sc (.int .i64 (6))))⟩,
    ⟨(some 11), none, .pick (.t 7) (.c (.sc (.bool true))) (.t 10)⟩,
    ⟨(some 12), none, .move (.t 11)⟩,
    ⟨(some 13), (some (12, false)), .faddr 1 (.t 1)⟩,
    ⟨(some 14), (some (12, false)), .load none (.t 13)⟩,
    ⟨(some 15), (some (12, false)), .bin .lss (.t 14) (.c (.sc (.int .i64 (-2))))⟩,
    ⟨(some 16), none, .pick (.t 12) (.c (.sc (.bool true))) (.t 15)⟩,
    ⟨(some 17), none, .move (.t 16)⟩,
    ⟨(some 18), (some (17, false)), .faddr 1 (.t 1)⟩,
    ⟨(some 19), (some (17, false)), .load none (.t 18)⟩,
    ⟨(some 20), (some (17, false)), .bin .gtr (.t 19) (.c (.sc (.int .i64 (2))))⟩,
    ⟨(some 21), none, .pick (.t 17) (.c (.sc (.bool true))) (.t 20)⟩,
    ⟨(some 22), none, .move (.t 21)⟩,
    ⟨(some 23), (some (22, false)), .faddr 2 (.t 1)⟩,
    ⟨(some 24), (some (22, false)), .load none (.t 23)⟩,
    ⟨(some 25), (some (22, false)), .bin .lss (.t 24) (.c (.sc (.int .i64 (-1))))⟩,
    ⟨(some 26), none, .pick (.t 22) (.c (.sc (.bool true))) (.t 25)⟩,
    ⟨(some 27), none, .move (.t 26)⟩,
    ⟨(some 28), (some (27, false)), .faddr 2 (.t 1)⟩,
    ⟨(some 29), (some (27, false)), .load none (.t 28)⟩,
    ⟨(some 30), (some (27, false)), .bin .gtr (.t 29) (.c (.sc (.int .i64 (9))))⟩,
    ⟨(some 31), none, .pick (.t 27) (.c (.sc (.bool true))) (.t 30)⟩])
  (.cond (.t 31)
   (.seq (.ops [⟨(some 2), none, .move (.c (.sc (.int .i64 (18))))⟩])
   (.ret))
   (.skip)))
  (.seq (.seq (.ops [⟨(some 32), none, .load (some 3) (.t 1)⟩,
    ⟨(some 33), none, .call (.c (.fn (.func 225) [] [])) [(.t 32)]⟩,
    ⟨(some 3), none, .move (.t 33)⟩])
  (.seq (.ops [⟨(some 34), none, .move (.t 3)⟩,
    ⟨(some 35), none, .bin .lss (.t 34) (.c (.sc (.int .i64 (0))))⟩,
    ⟨(some 36), none, .move (.t 35)⟩,
    ⟨(some 37), (some (36, false)), .move (.t 3)⟩,
    ⟨(some 38), (some (36, false)), .bin .gtr (.t 37) (.c (.sc (.int .i64 (127))))⟩,
    ⟨(some 39), none, .pick (.t 36) (.c (.sc (.bool true))) (.t 38)⟩])
  (.cond (.t 39)
   (.seq (.ops [⟨(some 2), none, .move (.c (.sc (.int .i64 (18))))⟩])
   (.ret))
   (.skip))))
  (.seq (.ops [⟨(some 2), none, .move (.c (.sc (.int .i64 (0))))⟩])
  (.ret)))),
  [.t 2]⟩
theorem ok224 : EntryOk Tryz.prog 224 af224 := ⟨Tryz.f224, _, Tryz.func224, by decide, rfl, by kernel_rfl, by kernel_rfl, rfl⟩
/-- slices.IndexFunc[[]hemiola/api.Spanner,hemiola/api.Spanner] -/
noncomputable def af228 : AF := ⟨19, .seq (.ops [⟨(some 4), none, .move (.c (.sc (.int .i64 (0))))⟩])
  (.seq (.seq (.ops [⟨(some 6), none, .move (.t 0)⟩,
    ⟨(some 7), none, .len (.t 6)⟩,
    ⟨(some 8), none, .move (.c (.sc (.int .i64 (0))))⟩])
  (.block 0 (.loop (.seq (.ops [⟨(some 9), none, .bin .lss (.t 8) (.t 7)⟩])
    (.seq (.cond (.t 9)
     (.skip)
     (.exit 0))
    (.seq (.block 1 (.seq (.ops [⟨(some 10), none, .move (.t 8)⟩,
       ⟨(some 5), none, .move (.t 10)⟩])
     (.seq (.ops [⟨(some 11), none, .move (.t 1)⟩,
       ⟨(some 12), none, .move (.t 0)⟩,
       ⟨(some 13), none, .move (.t 5)⟩,
       ⟨(some 14), none, .iaddrS 7 (.t 12) (.t 13)⟩,
       ⟨(some 15), none, .load (some 7) (.t 14)⟩,
       ⟨(some 16), none, .call (.t 11) [(.t 15)]⟩])
     (.cond (.t 16)
      (.seq (.ops [⟨(some 17), none, .move (.t 5)⟩,
        ⟨(some 4), none, .move (.t 17)⟩])
      (.ret))
      (.skip)))))
    (.ops [⟨(some 18), none, .bin .add (.t 8) (.c (.sc (.int .i64 (1))))⟩,
      ⟨(some 8), none, .move (.t 18)⟩])))))))
  (.seq (.ops [⟨(some 4), none, .move (.c (.sc (.int .i64 (-1))))⟩])
  (.ret))),
  [.t 4]⟩
theorem ok228 : EntryOk Tryz.prog 228 af228 := ⟨Tryz.f228, _, Tryz.func228, by decide, rfl, by kernel_rfl, by kernel_rfl, rfl⟩
/-- slices.insertionSortCmpFunc[hemiola/perform.hairpin] -/
noncomputable def af241 : AF := ⟨53, .seq (.ops [⟨(some 10), none, .move (.t 1)⟩,
    ⟨(some 11), none, .bin .add (.t 10) (.c (.sc (.int .i64 (1))))⟩,
    ⟨(some 8), none, .move (.t 11)⟩])
  (.block 0 (.loop (.seq (.seq (.ops [⟨(some 12), none, .move (.t 8)⟩,
      ⟨(some 13), none, .move (.t 2)⟩,
      ⟨(some 14), none, .bin .lss (.t 12) (.t 13)⟩])
    (.cond (.t 14)
     (.skip)
     (.exit 0)))
    (.seq (.block 1 (.seq (.ops [⟨(some 17), none, .move (.t 8)⟩,
       ⟨(some 9), none, .move (.t 17)⟩])
     (.block 2 (.loop (.seq (.seq (.draw [⟨true, [9], [], ⟨(some 18), none, .move (.t 9)⟩⟩,
         ⟨true, [1], [], ⟨(some 19), none, .move (.t 1)⟩⟩,
         ⟨true, [18, 19], [], ⟨(some 20), none, .bin .gtr (.t 18) (.t 19)⟩⟩,
         ⟨true, [20], [], ⟨(some 21), none, .move (.t 20)⟩⟩,
         ⟨false, [3, 21], [], ⟨(some 22), (some (21, true)), .move (.t 3)⟩⟩,
         ⟨false, [0, 21], [], ⟨(some 23), (some (21, true)), .move (.t 0)⟩⟩,
         ⟨false, [9, 21], [], ⟨(some 24), (some (21, true)), .move (.t 9)⟩⟩,
         ⟨false, [23, 24, 21], [], ⟨(some 25), (some (21, true)), .iaddrS 16 (.t 23) (.t 24)⟩⟩,
         ⟨false, [25, 21], [], ⟨(some 26), (some (21, true)), .load (some 16) (.t 25)⟩⟩,
         ⟨false, [0, 21], [], ⟨(some 27), (some (21, true)), .move (.t 0)⟩⟩,
         ⟨false, [9, 21], [], ⟨(some 28), (some (21, true)), .move (.t 9)⟩⟩,
         ⟨false, [28, 21], [], ⟨(some 29), (some (21, true)), .bin .sub (.t 28) (.c (.sc (.int .i64 (1))))⟩⟩,
         ⟨false, [27, 29, 21], [], ⟨(some 30), (some (21, true)), .iaddrS 16 (.t 27) (.t 29)⟩⟩,
         ⟨false, [30, 21], [], ⟨(some 31), (some (21, true)), .load (some 16) (.t 30)⟩⟩]
         [⟨(some 32), (some (21, true)), .call (.t 22) [(.t 26), (.t 31)]⟩,
         ⟨(some 33), (some (21, true)), .bin .lss (.t 32) (.c (.sc (.int .i64 (0))))⟩,
         ⟨(some 34), none, .pick (.t 21) (.t 33) (.c (.sc (.bool false)))⟩])
       (.cond (.t 34)
        (.skip)
        (.exit 2)))
       (.seq (.block 3 (.draw [⟨false, [0], [], ⟨(some 37), none, .move (.t 0)⟩⟩,
          ⟨false, [9], [], ⟨(some 38), none, .move (.t 9)⟩⟩,
          ⟨false, [0], [], ⟨(some 39), none, .move (.t 0)⟩⟩,
          ⟨false, [9], [], ⟨(some 40), none, .move (.t 9)⟩⟩,
          ⟨false, [40], [], ⟨(some 41), none, .bin .sub (.t 40) (.c (.sc (.int .i64 (1))))⟩⟩,
          ⟨false, [0], [], ⟨(some 42), none, .move (.t 0)⟩⟩,
          ⟨false, [9], [], ⟨(some 43), none, .move (.t 9)⟩⟩,
          ⟨false, [43], [], ⟨(some 44), none, .bin .sub (.t 43) (.c (.sc (.int .i64 (1))))⟩⟩,
          ⟨false, [42, 44], [], ⟨(some 45), none, .iaddrS 16 (.t 42) (.t 44)⟩⟩,
          ⟨false, [45], [], ⟨(some 46), none, .load (some 16) (.t 45)⟩⟩,
          ⟨false, [0], [], ⟨(some 47), none, .move (.t 0)⟩⟩,
          ⟨false, [9], [], ⟨(some 48), none, .move (.t 9)⟩⟩,
          ⟨false, [47, 48], [], ⟨(some 49), none, .iaddrS 16 (.t 47) (.t 48)⟩⟩,
          ⟨false, [49], [], ⟨(some 50), none, .load (some 16) (.t 49)⟩⟩,
          ⟨true, [37, 38], [], ⟨(some 51), none, .iaddrS 16 (.t 37) (.t 38)⟩⟩,
          ⟨true, [51, 46], [], ⟨none, none, .store 16 (.t 51) (.t 46)⟩⟩]
          [⟨(some 52), none, .iaddrS 16 (.t 39) (.t 41)⟩,
          ⟨none, none, .store 16 (.t 52) (.t 50)⟩]))
       (.ops [⟨(some 35), none, .move (.t 9)⟩,
         ⟨(some 36), none, .bin .sub (.t 35) (.c (.sc (.int .i64 (1))))⟩,
         ⟨(some 9), none, .move (.t 36)⟩])))))))
    (.ops [⟨(some 15), none, .move (.t 8)⟩,
      ⟨(some 16), none, .bin .add (.t 15) (.c (.sc (.int .i64 (1))))⟩,
      ⟨(some 8), none, .move (.t 16)⟩]))))),
  []⟩
theorem ok241 : EntryOk Tryz.prog 241 af241 := ⟨Tryz.f241, _, Tryz.func241, by decide, rfl, by kernel_rfl, by kernel_rfl, rfl⟩
/-- (*hemiola/check.checker).filled$1 -/
noncomputable def af256 : AF := ⟨20, .seq (.ops [⟨(some 4), none, .box (.t 1)⟩,
    ⟨(some 5), none, .move (.c (.sc (.bool false)))⟩])
  (.seq (.ops [⟨(some 10), none, .load (some 22) (.t 4)⟩,
    ⟨(some 11), none, .call (.c (.fn (.func 55) [] [])) [(.t 10)]⟩,
    ⟨(some 9), none, .move (.t 11)⟩,
    ⟨(some 12), none, .extract 0 (.t 9)⟩,
    ⟨(some 13), none, .extract 1 (.t 9)⟩,
    ⟨(some 6), none, .alloc [(.sc (.int .i64 (0)))]⟩,
    ⟨none, none, .store 1 (.t 6) (.t 12)⟩,
    ⟨(some 7), none, .move (.t 13)⟩])
  (.seq (.seq (.ops [⟨(some 14), none, .move (.t 7)⟩,
    ⟨(some 15), none, .bin .neq (.t 14) (.c (.sc (.int .i64 (0))))⟩])
  (.cond (.t 15)
   (.seq (.ops [⟨(some 5), none, .move (.c (.sc (.bool false)))⟩])
   (.ret))
   (.skip)))
  (.seq (.ops [⟨(some 8), none, .alloc [(.sc .nilFunc)]⟩,
    ⟨none, none, .store 1 (.t 8) (.c (.fn (.func 257) [] []))⟩])
  (.seq (.ops [⟨(some 16), none, .faddr 21 (.t 4)⟩,
    ⟨(some 17), none, .load none (.t 16)⟩,
    ⟨(some 18), none, .mkFn (.func 259) [] [(.t 8), (.t 2), (.t 6)]⟩,
    ⟨(some 19), none, .call (.c (.fn (.func 258) [] [])) [(.t 17), (.t 18)]⟩,
    ⟨(some 5), none, .move (.t 19)⟩])
  (.ret))))),
  [.t 5]⟩
theorem ok256 : EntryOk Tryz.prog 256 af256 := ⟨Tryz.f256, _, Tryz.func256, by decide, rfl, by kernel_rfl, by kernel_rfl, rfl⟩
/-- slices.ContainsFunc[[]hemiola/api.Voice,hemiola/api.Voice] -/
noncomputable def af260 : AF := ⟨9, .seq (.ops [⟨(some 4), none, .move (.c (.sc (.bool false)))⟩])
  (.seq (.ops [⟨(some 5), none, .move (.t 0)⟩,
    ⟨(some 6), none, .move (.t 1)⟩,
    ⟨(some 7), none, .call (.c (.fn (.func 325) [] [])) [(.t 5), (.t 6)]⟩,
    ⟨(some 8), none, .bin .geq (.t 7) (.c (.sc (.int .i64 (0))))⟩,
    ⟨(some 4), none, .move (.t 8)⟩])
  (.ret)),
  [.t 4]⟩
theorem ok260 : EntryOk Tryz.prog 260 af260 := ⟨Tryz.f260, _, Tryz.func260, by decide, rfl, by kernel_rfl, by kernel_rfl, rfl⟩
/-- hemiola/event.first -/
noncomputable def af264 : AF := ⟨15, .seq (.ops [⟨(some 2), none, .move (.c (.sc (.int .i64 (0))))⟩])
  (.seq (.seq (.ops [⟨(some 5), none, .move (.t 0)⟩,
    ⟨(some 6), none, .len (.t 5)⟩,
    ⟨(some 7), none, .move (.c (.sc (.int .i64 (0))))⟩])
  (.block 0 (.loop (.seq (.ops [⟨(some 8), none, .bin .lss (.t 7) (.t 6)⟩])
    (.seq (.cond (.t 8)
     (.skip)
     (.exit 0))
    (.seq (.block 1 (.seq (.ops [⟨(some 9), none, .iaddrS 1 (.t 5) (.t 7)⟩,
       ⟨(some 10), none, .load none (.t 9)⟩,
       ⟨(some 4), none, .move (.t 10)⟩])
     (.seq (.ops [⟨(some 11), none, .move (.t 4)⟩,
       ⟨(some 12), none, .bin .neq (.t 11) (.c (.sc (.int .i64 (0))))⟩])
     (.cond (.t 12)
      (.seq (.ops [⟨(some 13), none, .move (.t 4)⟩,
        ⟨(some 2), none, .move (.t 13)⟩])
      (.ret))
      (.skip)))))
    (.ops [⟨(some 14), none, .bin .add (.t 7) (.c (.sc (.int .i64 (1))))⟩,
      ⟨(some 7), none, .move (.t 14)⟩])))))))
  (.seq (.ops [⟨(some 2), none, .move (.c (.sc (.int .i64 (0))))⟩])
  (.ret))),
  [.t 2]⟩
theorem ok264 : EntryOk Tryz.prog 264 af264 := ⟨Tryz.f264, _, Tryz.func264, by decide, rfl, by kernel_rfl, by kernel_rfl, rfl⟩
/-- hemiola/event.strip -/
noncomputable def af268 : AF := ⟨35, .seq (.ops [⟨(some 1), none, .box (.t 0)⟩,
    ⟨(some 2), none, .alloc [(.sc (.int .i64 (0))), (.sc (.int .i64 (0))), (.sc (.int .i64 (0))), (.sc (.int .i64 (0))), (.sc (.int .i64 (0))), (.sl true .full 0 []), (.sl true .full 0 []), (.sc (.int .i64 (0))), (.sc (.int .i64 (0))), (.sc (.int .i64 (0))), (.sl true .full 0 []), (.sc (.int .i64 (0))), (.sc (.int .i64 (0)))]⟩])
  (.seq (.seq (.ops [⟨(some 4), none, .faddr 2 (.t 1)⟩,
    ⟨(some 5), none, .load none (.t 4)⟩,
    ⟨(some 6), none, .bin .eql (.t 5) (.c (.sc (.int .i64 (1))))⟩,
    ⟨(some 7), none, .move (.t 6)⟩,
    ⟨(some 8), (some (7, false)), .faddr 2 (.t 1)⟩,
    ⟨(some 9), (some (7, false)), .load none (.t 8)⟩,
    ⟨(some 10), (some (7, false)), .call (.c (.fn (.func 266) [] [])) [(.t 9)]⟩,
    ⟨(some 11), (some (7, false)), .un .not (.t 10)⟩,
    ⟨(some 12), none, .pick (.t 7) (.c (.sc (.bool true))) (.t 11)⟩])
  (.cond (.t 12)
   (.seq (.ops [⟨(some 13), none, .load (some 13) (.t 1)⟩,
     ⟨none, none, .store 13 (.t 2) (.t 13)⟩])
   (.ret))
   (.skip)))
  (.seq (.ops [⟨(some 14), none, .faddr 0 (.t 1)⟩,
    ⟨(some 15), none, .load (some 2) (.t 14)⟩,
    ⟨(some 16), none, .faddr 2 (.t 1)⟩,
    ⟨(some 17), none, .load none (.t 16)⟩,
    ⟨(some 18), none, .faddr 9 (.t 1)⟩,
    ⟨(some 19), none, .load none (.t 18)⟩,
    ⟨(some 20), none, .build [(.sc (.int .i64 (0))), (.sc (.int .i64 (0))), (.sc (.int .i64 (0))), (.sc (.int .i64 (0))), (.sc (.int .i64 (0))), (.sl true .full 0 []), (.sl true .full 0 []), (.sc (.int .i64 (0))), (.sc (.int .i64 (0))), (.sc (.int .i64 (0))), (.sl true .full 0 []), (.sc (.int .i64 (0))), (.sc (.int .i64 (0)))] [((0, 2), (.t 15)), ((2, 1), (.t 17)), ((9, 1), (.t 19))]⟩,
    ⟨(some 3), none, .alloc [(.sc (.int .i64 (0))), (.sc (.int .i64 (0))), (.sc (.int .i64 (0))), (.sc (.int .i64 (0))), (.sc (.int .i64 (0))), (.sl true .full 0 []), (.sl true .full 0 []), (.sc (.int .i64 (0))), (.sc (.int .i64 (0))), (.sc (.int .i64 (0))), (.sl true .full 0 []), (.sc (.int .i64 (0))), (.sc (.int .i64 (0)))]⟩,
    ⟨none, none, .store 13 (.t 3) (.t 20)⟩])
  (.seq (.seq (.ops [⟨(some 21), none, .faddr 2 (.t 1)⟩,
    ⟨(some 22), none, .load none (.t 21)⟩,
    ⟨(some 23), none, .bin .neq (.t 22) (.c (.sc (.int .i64 (3))))⟩])
  (.cond (.t 23)
   (.ops [⟨(some 24), none, .faddr 3 (.t 1)⟩,
     ⟨(some 25), none, .load (some 2) (.t 24)⟩,
     ⟨(some 26), none, .faddr 3 (.t 3)⟩,
     ⟨none, none, .store 2 (.t 26) (.t 25)⟩])
   (.skip)))
  (.seq (.seq (.ops [⟨(some 27), none, .faddr 2 (.t 1)⟩,
    ⟨(some 28), none, .load none (.t 27)⟩,
    ⟨(some 29), none, .bin .neq (.t 28) (.c (.sc (.int .i64 (4))))⟩])
  (.cond (.t 29)
   (.ops [⟨(some 30), none, .faddr 7 (.t 1)⟩,
     ⟨(some 31), none, .load none (.t 30)⟩,
     ⟨(some 32), none, .call (.c (.fn (.func 330) [] [])) [(.t 31)]⟩,
     ⟨(some 33), none, .faddr 7 (.t 3)⟩,
     ⟨none, none, .store 1 (.t 33) (.t 32)⟩])
   (.skip)))
  (.seq (.ops [⟨(some 34), none, .load (some 13) (.t 3)⟩,
    ⟨none, none, .store 13 (.t 2) (.t 34)⟩])
  (.ret)))))),
  [.c 2 (some 13)]⟩
theorem ok268 : EntryOk Tryz.prog 268 af268 := ⟨Tryz.f268, _, Tryz.func268, by decide, rfl, by kernel_rfl, by kernel_rfl, rfl⟩
/-- slices.IndexFunc[[]hemiola/api.Head,hemiola/api.Head] -/
noncomputable def af272 : AF := ⟨19, .seq (.ops [⟨(some 4), none, .move (.c (.sc (.int .i64 (0))))⟩])
  (.seq (.seq (.ops [⟨(some 6), none, .move (.t 0)⟩,
    ⟨(some 7), none, .len (.t 6)⟩,
    ⟨(some 8), none, .move (.c (.sc (.int .i64 (0))))⟩])
  (.block 0 (.loop (.seq (.ops [⟨(some 9), none, .bin .lss (.t 8) (.t 7)⟩])
    (.seq (.cond (.t 9)
     (.skip)
     (.exit 0))
    (.seq (.block 1 (.seq (.ops [⟨(some 10), none, .move (.t 8)⟩,
       ⟨(some 5), none, .move (.t 10)⟩])
     (.seq (.ops [⟨(some 11), none, .move (.t 1)⟩,
       ⟨(some 12), none, .move (.t 0)⟩,
       ⟨(some 13), none, .move (.t 5)⟩,
       ⟨(some 14), none, .iaddrS 5 (.t 12) (.t 13)⟩,
       ⟨(some 15), none, .load (some 5) (.t 14)⟩,
       ⟨(some 16), none, .call (.t 11) [(.t 15)]⟩])
     (.cond (.t 16)
      (.seq (.ops [⟨(some 17), none, .move (.t 5)⟩,
        ⟨(some 4), none, .move (.t 17)⟩])
      (.ret))
      (.skip)))))
    (.ops [⟨(some 18), none, .bin .add (.t 8) (.c (.sc (.int .i64 (1))))⟩,
      ⟨(some 8), none, .move (.t 18)⟩])))))))
  (.seq (.ops [⟨(some 4), none, .move (.c (.sc (.int .i64 (-1))))⟩])
  (.ret))),
  [.t 4]⟩
theorem ok272 : EntryOk Tryz.prog 272 af272 := ⟨Tryz.f272, _, Tryz.func272, by decide, rfl, by kernel_rfl, by kernel_rfl, rfl⟩
/-- hemiola/score.events -/
noncomputable def af276 : AF := ⟨66, .seq (.ops [⟨(some 4), none, .box (.t 0)⟩,
    ⟨(some 8), none, .move (.c (.sl true .full 0 []))⟩])
  (.seq (.seq (.ops [⟨(some 9), none, .move (.t 1)⟩,
    ⟨(some 10), none, .bin .lss (.t 9) (.c (.sc (.int .i64 (0))))⟩,
    ⟨(some 11), none, .move (.t 10)⟩,
    ⟨(some 12), (some (11, false)), .move (.t 1)⟩,
    ⟨(some 13), (some (11, false)), .faddr 3 (.t 4)⟩,
    ⟨(some 14), (some (11, false)), .load none (.t 13)⟩,
    ⟨(some 15), (some (11, false)), .len (.t 14)⟩,
    ⟨(some 16), (some (11, false)), .bin .geq (.t 12) (.t 15)⟩,
    ⟨(some 17), none, .pick (.t 11) (.c (.sc (.bool true))) (.t 16)⟩,
    ⟨(some 18), none, .move (.t 17)⟩,
    ⟨(some 19), (some (18, false)), .move (.t 2)⟩,
    ⟨(some 20), (some (18, false)), .bin .lss (.t 19) (.c (.sc (.int .i64 (0))))⟩,
    ⟨(some 21), none, .pick (.t 18) (.c (.sc (.bool true))) (.t 20)⟩,
    ⟨(some 22), none, .move (.t 21)⟩,
    ⟨(some 23), (some (22, false)), .move (.t 2)⟩,
    ⟨(some 24), (some (22, false)), .faddr 3 (.t 4)⟩,
    ⟨(some 25), (some (22, false)), .load none (.t 24)⟩,
    ⟨(some 26), (some (22, false)), .move (.t 1)⟩,
    ⟨(some 27), (some (22, false)), .iaddrS 22 (.t 25) (.t 26)⟩,
    ⟨(some 28), (some (22, false)), .faddr 21 (.t 27)⟩,
    ⟨(some 29), (some (22, false)), .load none (.t 28)⟩,
    ⟨(some 30), (some (22, false)), .len (.t 29)⟩,
    ⟨(some 31), (some (22, false)), .bin .geq (.t 23) (.t 30)⟩,
    ⟨(some 32), none, .pick (.t 22) (.c (.sc (.bool true))) (.t 31)⟩,
    ⟨(some 33), none, .move (.t 32)⟩,
    ⟨(some 34), (some (33, false)), .move (.t 3)⟩,
    ⟨(some 35), (some (33, false)), .bin .lss (.t 34) (.c (.sc (.int .i64 (0))))⟩,
    ⟨(some 36), none, .pick (.t 33) (.c (.sc (.bool true))) (.t 35)⟩,
    ⟨(some 37), none, .move (.t 36)⟩,
    ⟨(some 38), (some (37, false)), .move (.t 3)⟩,
    ⟨(some 39), (some (37, false)), .faddr 3 (.t 4)⟩,
    ⟨(some 40), (some (37, false)), .load none (.t 39)⟩,
    ⟨(some 41), (some (37, false)), .move (.t 1)⟩,
    ⟨(some 42), (some (37, false)), .iaddrS 22 (.t 40) (.t 41)⟩,
    ⟨(some 43), (some (37, false)), .faddr 21 (.t 42)⟩,
    ⟨(some 44), (some (37, false)), .load none (.t 43)⟩,
    ⟨(some 45), (some (37, false)), .move (.t 2)⟩,
    ⟨(some 46), (some (37, false)), .iaddrS 2 (.t 44) (.t 45)⟩,
    ⟨(some 47), (some (37, false)), .faddr 1 (.t 46)⟩,
    ⟨(some 48), (some (37, false)), .load none (.t 47)⟩,
    ⟨(some 49), (some (37, false)), .len (.t 48)⟩,
    ⟨(some 50), (some (37, false)), .bin .geq (.t 38) (.t 49)⟩,
    ⟨(some 51), none, .pick (.t 37) (.c (.sc (.bool true))) (.t 50)⟩])
  (.cond (.t 51)
   (.seq (.ops [⟨(some 8), none, .move (.c (.sl true .full 0 []))⟩])
   (.ret))
   (.skip)))
  (.seq (.ops [⟨(some 52), none, .faddr 3 (.t 4)⟩,
    ⟨(some 53), none, .load none (.t 52)⟩,
    ⟨(some 54), none, .move (.t 1)⟩,
    ⟨(some 55), none, .iaddrS 22 (.t 53) (.t 54)⟩,
    ⟨(some 56), none, .faddr 21 (.t 55)⟩,
    ⟨(some 57), none, .load none (.t 56)⟩,
    ⟨(some 58), none, .move (.t 2)⟩,
    ⟨(some 59), none, .iaddrS 2 (.t 57) (.t 58)⟩,
    ⟨(some 60), none, .faddr 1 (.t 59)⟩,
    ⟨(some 61), none, .load none (.t 60)⟩,
    ⟨(some 62), none, .move (.t 3)⟩,
    ⟨(some 63), none, .iaddrS 2 (.t 61) (.t 62)⟩,
    ⟨(some 64), none, .faddr 0 (.t 63)⟩,
    ⟨(some 65), none, .load none (.t 64)⟩,
    ⟨(some 8), none, .move (.t 65)⟩])
  (.ret))),
  [.t 8]⟩
theorem ok276 : EntryOk Tryz.prog 276 af276 := ⟨Tryz.f276, _, Tryz.func276, by decide, rfl, by kernel_rfl, by kernel_rfl, rfl⟩
/-- slices.AppendSeq[[]hemiola/api.Note,hemiola/api.Note] -/
noncomputable def af297 : AF := ⟨13, .seq (.ops [⟨(some 2), none, .box (.t 0)⟩,
    ⟨(some 4), none, .move (.c (.sl true .full 0 []))⟩])
  (.seq (.seq (.ops [⟨(some 6), none, .move (.t 1)⟩])
  (.block 0 (.range (.t 6) #[7]
    (.ops [⟨(some 5), none, .alloc [(.sc (.int .i64 (0))), (.sc (.int .i64 (0))), (.sc (.int .i64 (0))), (.sc (.int .i64 (0))), (.sc (.int .i64 (0))), (.sc (.int .i64 (0))), (.sc (.int .i64 (0))), (.sc (.int .i64 (0))), (.sc (.int .i64 (0)))]⟩,
      ⟨none, none, .store 9 (.t 5) (.t 7)⟩])
    (.block 1 (.ops [⟨(some 8), none, .load none (.t 2)⟩,
       ⟨(some 9), none, .load (some 9) (.t 5)⟩,
       ⟨(some 10), none, .buildSl 9 [(.t 9)]⟩,
       ⟨(some 11), none, .appendM 9 72 (.t 8) (.t 10)⟩,
       ⟨none, none, .store 1 (.t 2) (.t 11)⟩]))
    (codeAt (Tryz.f297.body.getD .skip) [1, 0, 1, 0, 0]) (codeAt (Tryz.f297.body.getD .skip) [1, 0, 1, 0, 1]))))
  (.seq (.ops [⟨(some 12), none, .load none (.t 2)⟩,
    ⟨(some 4), none, .move (.t 12)⟩])
  (.ret))),
  [.t 4]⟩
theorem ok297 : EntryOk Tryz.prog 297 af297 := ⟨Tryz.f297, _, Tryz.func297, by decide, rfl, by kernel_rfl, by kernel_rfl, rfl⟩
/-- math/bits.Div64 -/
noncomputable def af301 : AF := ⟨135, .seq (.ops [⟨(some 6), none, .move (.c (.sc (.int .u64 (0))))⟩,
    ⟨(some 7), none, .move (.c (.sc (.int .u64 (0))))⟩])
  (.seq (.seq (.ops [⟨(some 19), none, .move (.t 2)⟩,
    ⟨(some 20), none, .bin .eql (.t 19) (.c (.sc (.int .u64 (0))))⟩])
  (.cond (.t 20)
   (.ops [⟨(some 21), none, .bad⟩,
     ⟨none, none, .bad⟩])
   (.skip)))
  (.seq (.seq (.ops [⟨(some 22), none, .move (.t 2)⟩,
    ⟨(some 23), none, .move (.t 0)⟩,
    ⟨(some 24), none, .bin .leq (.t 22) (.t 23)⟩])
  (.cond (.t 24)
   (.ops [⟨(some 25), none, .bad⟩,
     ⟨none, none, .bad⟩])
   (.skip)))
  (.seq (.seq (.ops [⟨(some 26), none, .move (.t 0)⟩,
    ⟨(some 27), none, .bin .eql (.t 26) (.c (.sc (.int .u64 (0))))⟩])
  (.cond (.t 27)
   (.seq (.draw [⟨true, [1], [], ⟨(some 28), none, .move (.t 1)⟩⟩,
     ⟨true, [2], [], ⟨(some 29), none, .move (.t 2)⟩⟩,
     ⟨true, [28, 29], [], ⟨(some 30), none, .bin .quo (.t 28) (.t 29)⟩⟩,
     ⟨true, [1], [], ⟨(some 31), none, .move (.t 1)⟩⟩,
     ⟨true, [2], [], ⟨(some 32), none, .move (.t 2)⟩⟩,
     ⟨true, [31, 32], [], ⟨(some 33), none, .bin .rem (.t 31) (.t 32)⟩⟩,
     ⟨true, [30], [], ⟨(some 6), none, .move (.t 30)⟩⟩]
     [⟨(some 7), none, .move (.t 33)⟩])
   (.ret))
   (.skip)))
  (.seq (.ops [⟨(some 34), none, .move (.t 2)⟩,
    ⟨(some 35), none, .call (.c (.fn (.func 347) [] [])) [(.t 34)]⟩,
    ⟨(some 36), none, .convI .u64 (.t 35)⟩,
    ⟨(some 8), none, .move (.t 36)⟩])
  (.seq (.ops [⟨(some 37), none, .move (.t 2)⟩,
    ⟨(some 38), none, .move (.t 8)⟩,
    ⟨(some 39), none, .bin .shl (.t 37) (.t 38)⟩,
    ⟨(some 2), none, .move (.t 39)⟩])
  (.seq (.ops [⟨(some 40), none, .move (.t 2)⟩,
    ⟨(some 41), none, .bin .shr (.t 40) (.c (.sc (.int .u64 (32))))⟩,
    ⟨(some 9), none, .move (.t 41)⟩])
  (.seq (.ops [⟨(some 42), none, .move (.t 2)⟩,
    ⟨(some 43), none, .bin .and (.t 42) (.c (.sc (.int .u64 (4294967295))))⟩,
    ⟨(some 10), none, .move (.t 43)⟩])
  (.seq (.ops [⟨(some 44), none, .move (.t 0)⟩,
    ⟨(some 45), none, .move (.t 8)⟩,
    ⟨(some 46), none, .bin .shl (.t 44) (.t 45)⟩,
    ⟨(some 47), none, .move (.t 1)⟩,
    ⟨(some 48), none, .move (.t 8)⟩,
    ⟨(some 49), none, .bin .sub (.c (.sc (.int .u64 (64)))) (.t 48)⟩,
    ⟨(some 50), none, .bin .shr (.t 47) (.t 49)⟩,
    ⟨(some 51), none, .bin .or (.t 46) (.t 50)⟩,
    ⟨(some 11), none, .move (.t 51)⟩])
  (.seq (.ops [⟨(some 52), none, .move (.t 1)⟩,
    ⟨(some 53), none, .move (.t 8)⟩,
    ⟨(some 54), none, .bin .shl (.t 52) (.t 53)⟩,
    ⟨(some 12), none, .move (.t 54)⟩])
  (.seq (.ops [⟨(some 55), none, .move (.t 12)⟩,
    ⟨(some 56), none, .bin .shr (.t 55) (.c (.sc (.int .u64 (32))))⟩,
    ⟨(some 13), none, .move (.t 56)⟩])
  (.seq (.ops [⟨(some 57), none, .move (.t 12)⟩,
    ⟨(some 58), none, .bin .and (.t 57) (.c (.sc (.int .u64 (4294967295))))⟩,
    ⟨(some 14), none, .move (.t 58)⟩])
  (.seq (.ops [⟨(some 59), none, .move (.t 11)⟩,
    ⟨(some 60), none, .move (.t 9)⟩,
    ⟨(some 61), none, .bin .quo (.t 59) (.t 60)⟩,
    ⟨(some 15), none, .move (.t 61)⟩])
  (.seq (.ops [⟨(some 62), none, .move (.t 11)⟩,
    ⟨(some 63), none, .move (.t 15)⟩,
    ⟨(some 64), none, .move (.t 9)⟩,
    ⟨(some 65), none, .bin .mul (.t 63) (.t 64)⟩,
    ⟨(some 66), none, .bin .sub (.t 62) (.t 65)⟩,
    ⟨(some 16), none, .move (.t 66)⟩])
  (.seq (.block 0 (.loop (.seq (.seq (.ops [⟨(some 67), none, .move (.t 15)⟩,
      ⟨(some 68), none, .bin .geq (.t 67) (.c (.sc (.int .u64 (4294967296))))⟩,
      ⟨(some 69), none, .move (.t 68)⟩,
      ⟨(some 70), (some (69, false)), .move (.t 15)⟩,
      ⟨(some 71), (some (69, false)), .move (.t 10)⟩,
      ⟨(some 72), (some (69, false)), .bin .mul (.t 70) (.t 71)⟩,
      ⟨(some 73), (some (69, false)), .move (.t 16)⟩,
      ⟨(some 74), (some (69, false)), .bin .mul (.c (.sc (.int .u64 (4294967296)))) (.t 73)⟩,
      ⟨(some 75), (some (69, false)), .move (.t 13)⟩,
      ⟨(some 76), (some (69, false)), .bin .add (.t 74) (.t 75)⟩,
      ⟨(some 77), (some (69, false)), .bin .gtr (.t 72) (.t 76)⟩,
      ⟨(some 78), none, .pick (.t 69) (.c (.sc (.bool true))) (.t 77)⟩])
    (.cond (.t 78)
     (.skip)
     (.exit 0)))
    (.block 1 (.seq (.ops [⟨(some 79), none, .move (.t 15)⟩,
       ⟨(some 80), none, .bin .sub (.t 79) (.c (.sc (.int .u64 (1))))⟩,
       ⟨(some 15), none, .move (.t 80)⟩])
     (.seq (.ops [⟨(some 81), none, .move (.t 16)⟩,
       ⟨(some 82), none, .move (.t 9)⟩,
       ⟨(some 83), none, .bin .add (.t 81) (.t 82)⟩,
       ⟨(some 16), none, .move (.t 83)⟩])
     (.seq (.ops [⟨(some 84), none, .move (.t 16)⟩,
       ⟨(some 85), none, .bin .geq (.t 84) (.c (.sc (.int .u64 (4294967296))))⟩])
     (.cond (.t 85)
      (.exit 0)
      (.skip)))))))))
  (.seq (.ops [⟨(some 86), none, .move (.t 11)⟩,
    ⟨(some 87), none, .bin .mul (.t 86) (.c (.sc (.int .u64 (4294967296))))⟩,
    ⟨(some 88), none, .move (.t 13)⟩,
    ⟨(some 89), none, .bin .add (.t 87) (.t 88)⟩,
    ⟨(some 90), none, .move (.t 15)⟩,
    ⟨(some 91), none, .move (.t 2)⟩,
    ⟨(some 92), none, .bin .mul (.t 90) (.t 91)⟩,
    ⟨(some 93), none, .bin .sub (.t 89) (.t 92)⟩,
    ⟨(some 17), none, .move (.t 93)⟩])
  (.seq (.ops [⟨(some 94), none, .move (.t 17)⟩,
    ⟨(some 95), none, .move (.t 9)⟩,
    ⟨(some 96), none, .bin .quo (.t 94) (.t 95)⟩,
    ⟨(some 18), none, .move (.t 96)⟩])
  (.seq (.ops [⟨(some 97), none, .move (.t 17)⟩,
    ⟨(some 98), none, .move (.t 18)⟩,
    ⟨(some 99), none, .move (.t 9)⟩,
    ⟨(some 100), none, .bin .mul (.t 98) (.t 99)⟩,
    ⟨(some 101), none, .bin .sub (.t 97) (.t 100)⟩,
    ⟨(some 16), none, .move (.t 101)⟩])
  (.seq (.block 2 (.loop (.seq (.seq (.ops [⟨(some 102), none, .move (.t 18)⟩,
      ⟨(some 103), none, .bin .geq (.t 102) (.c (.sc (.int .u64 (4294967296))))⟩,
      ⟨(some 104), none, .move (.t 103)⟩,
      ⟨(some 105), (some (104, false)), .move (.t 18)⟩,
      ⟨(some 106), (some (104, false)), .move (.t 10)⟩,
      ⟨(some 107), (some (104, false)), .bin .mul (.t 105) (.t 106)⟩,
      ⟨(some 108), (some (104, false)), .move (.t 16)⟩,
      ⟨(some 109), (some (104, false)), .bin .mul (.c (.sc (.int .u64 (4294967296)))) (.t 108)⟩,
      ⟨(some 110), (some (104, false)), .move (.t 14)⟩,
      ⟨(some 111), (some (104, false)), .bin .add (.t 109) (.t 110)⟩,
      ⟨(some 112), (some (104, false)), .bin .gtr (.t 107) (.t 111)⟩,
      ⟨(some 113), none, .pick (.t 104) (.c (.sc (.bool true))) (.t 112)⟩])
    (.cond (.t 113)
     (.skip)
     (.exit 2)))
    (.block 3 (.seq (.ops [⟨(some 114), none, .move (.t 18)⟩,
       ⟨(some 115), none, .bin .sub (.t 114) (.c (.sc (.int .u64 (1))))⟩,
       ⟨(some 18), none, .move (.t 115)⟩])
     (.seq (.ops [⟨(some 116), none, .move (.t 16)⟩,
       ⟨(some 117), none, .move (.t 9)⟩,
       ⟨(some 118), none, .bin .add (.t 116) (.t 117)⟩,
       ⟨(some 16), none, .move (.t 118)⟩])
     (.seq (.ops [⟨(some 119), none, .move (.t 16)⟩,
       ⟨(some 120), none, .bin .geq (.t 119) (.c (.sc (.int .u64 (4294967296))))⟩])
     (.cond (.t 120)
      (.exit 2)
      (.skip)))))))))
  (.seq (.ops [⟨(some 121), none, .move (.t 15)⟩,
    ⟨(some 122), none, .bin .mul (.t 121) (.c (.sc (.int .u64 (4294967296))))⟩,
    ⟨(some 123), none, .move (.t 18)⟩,
    ⟨(some 124), none, .bin .add (.t 122) (.t 123)⟩,
    ⟨(some 125), none, .move (.t 17)⟩,
    ⟨(some 126), none, .bin .mul (.t 125) (.c (.sc (.int .u64 (4294967296))))⟩,
    ⟨(some 127), none, .move (.t 14)⟩,
    ⟨(some 128), none, .bin .add (.t 126) (.t 127)⟩,
    ⟨(some 129), none, .move (.t 18)⟩,
    ⟨(some 130), none, .move (.t 2)⟩,
    ⟨(some 131), none, .bin .mul (.t 129) (.t 130)⟩,
    ⟨(some 132), none, .bin .sub (.t 128) (.t 131)⟩,
    ⟨(some 133), none, .move (.t 8)⟩,
    ⟨(some 134), none, .bin .shr (.t 132) (.t 133)⟩,
    ⟨(some 6), none, .move (.t 124)⟩,
    ⟨(some 7), none, .move (.t 134)⟩])
  (.ret)))))))))))))))))))),
  [.t 6, .t 7]⟩
theorem ok301 : EntryOk Tryz.prog 301 af301 := ⟨Tryz.f301, _, Tryz.func301, by decide, rfl, by kernel_rfl, by kernel_rfl, rfl⟩
/-- hemiola/voice.inner -/
noncomputable def af305 : AF := ⟨62, .seq (.ops [⟨(some 1), none, .box (.t 0)⟩,
    ⟨(some 2), none, .move (.c (.sl true .full 0 []))⟩,
    ⟨(some 3), none, .move (.c (.sc (.int .i64 (0))))⟩])
  (.seq (.seq (.ops [⟨(some 12), none, .faddr 0 (.t 1)⟩,
    ⟨(some 13), none, .load none (.t 12)⟩,
    ⟨(some 14), none, .len (.t 13)⟩,
    ⟨(some 15), none, .move (.c (.sc (.int .i64 (0))))⟩])
  (.block 0 (.loop (.seq (.ops [⟨(some 16), none, .bin .lss (.t 15) (.t 14)⟩])
    (.seq (.cond (.t 16)
     (.skip)
     (.exit 0))
    (.seq (.block 1 (.seq (.ops [⟨(some 17), none, .move (.t 15)⟩,
       ⟨(some 18), none, .iaddrS 13 (.t 13) (.t 15)⟩,
       ⟨(some 19), none, .load (some 13) (.t 18)⟩,
       ⟨(some 5), none, .alloc [(.sc (.int .i64 (0))), (.sc (.int .i64 (0))), (.sc (.int .i64 (0))), (.sc (.int .i64 (0))), (.sc (.int .i64 (0))), (.sl true .full 0 []), (.sl true .full 0 []), (.sc (.int .i64 (0))), (.sc (.int .i64 (0))), (.sc (.int .i64 (0))), (.sl true .full 0 []), (.sc (.int .i64 (0))), (.sc (.int .i64 (0)))]⟩,
       ⟨(some 4), none, .move (.t 17)⟩,
       ⟨none, none, .store 13 (.t 5) (.t 19)⟩])
     (.seq (.seq (.ops [⟨(some 20), none, .load (some 13) (.t 5)⟩,
       ⟨(some 21), none, .call (.c (.fn (.func 181) [] [])) [(.t 20)]⟩,
       ⟨(some 6), none, .move (.t 21)⟩])
     (.seq (.ops [⟨(some 22), none, .move (.t 6)⟩,
       ⟨(some 23), none, .bin .neq (.t 22) (.c (.sc (.int .i64 (0))))⟩])
     (.cond (.t 23)
      (.seq (.ops [⟨(some 24), none, .move (.t 6)⟩,
        ⟨(some 2), none, .move (.c (.sl true .full 0 []))⟩,
        ⟨(some 3), none, .move (.t 24)⟩])
      (.ret))
      (.skip))))
     (.seq (.ops [⟨(some 25), none, .faddr 2 (.t 5)⟩,
       ⟨(some 26), none, .load none (.t 25)⟩,
       ⟨(some 27), none, .bin .eql (.t 26) (.c (.sc (.int .i64 (3))))⟩,
       ⟨(some 28), none, .move (.t 27)⟩,
       ⟨(some 29), (some (28, true)), .move (.t 4)⟩,
       ⟨(some 30), (some (28, true)), .bin .gtr (.t 29) (.c (.sc (.int .i64 (0))))⟩,
       ⟨(some 31), (some (28, true)), .move (.t 30)⟩,
       ⟨(some 32), (some (31, false)), .faddr 0 (.t 1)⟩,
       ⟨(some 33), (some (31, false)), .load none (.t 32)⟩,
       ⟨(some 34), (some (31, false)), .len (.t 33)⟩,
       ⟨(some 35), (some (31, false)), .bin .gtr (.t 34) (.c (.sc (.int .i64 (1))))⟩,
       ⟨(some 36), (some (28, true)), .pick (.t 31) (.c (.sc (.bool true))) (.t 35)⟩,
       ⟨(some 37), none, .pick (.t 28) (.t 36) (.c (.sc (.bool false)))⟩])
     (.cond (.t 37)
      (.seq (.ops [⟨(some 2), none, .move (.c (.sl true .full 0 []))⟩,
        ⟨(some 3), none, .move (.c (.sc (.int .i64 (11))))⟩])
      (.ret))
      (.skip))))))
    (.ops [⟨(some 38), none, .bin .add (.t 15) (.c (.sc (.int .i64 (1))))⟩,
      ⟨(some 15), none, .move (.t 38)⟩])))))))
  (.seq (.ops [⟨(some 39), none, .faddr 0 (.t 1)⟩,
    ⟨(some 40), none, .load none (.t 39)⟩,
    ⟨(some 41), none, .call (.c (.fn (.func 348) [] [])) [(.t 40)]⟩,
    ⟨(some 7), none, .move (.t 41)⟩])
  (.seq (.ops [⟨(some 43), none, .faddr 1 (.t 1)⟩,
    ⟨(some 44), none, .load none (.t 43)⟩,
    ⟨(some 45), none, .move (.t 7)⟩,
    ⟨(some 46), none, .call (.c (.fn (.func 349) [] [])) [(.t 44), (.t 45)]⟩,
    ⟨(some 42), none, .move (.t 46)⟩,
    ⟨(some 47), none, .extract 0 (.t 42)⟩,
    ⟨(some 48), none, .extract 1 (.t 42)⟩,
    ⟨(some 8), none, .move (.t 47)⟩,
    ⟨(some 9), none, .move (.t 48)⟩])
  (.seq (.seq (.ops [⟨(some 49), none, .move (.t 9)⟩,
    ⟨(some 50), none, .bin .neq (.t 49) (.c (.sc (.int .i64 (0))))⟩])
  (.cond (.t 50)
   (.seq (.ops [⟨(some 51), none, .move (.t 9)⟩,
     ⟨(some 2), none, .move (.c (.sl true .full 0 []))⟩,
     ⟨(some 3), none, .move (.t 51)⟩])
   (.ret))
   (.skip)))
  (.seq (.seq (.ops [⟨(some 53), none, .faddr 1 (.t 1)⟩,
    ⟨(some 54), none, .load none (.t 53)⟩,
    ⟨(some 55), none, .move (.t 7)⟩,
    ⟨(some 56), none, .call (.c (.fn (.func 350) [] [])) [(.t 54), (.t 55)]⟩,
    ⟨(some 52), none, .move (.t 56)⟩,
    ⟨(some 57), none, .extract 0 (.t 52)⟩,
    ⟨(some 58), none, .extract 1 (.t 52)⟩,
    ⟨(some 10), none, .move (.t 57)⟩,
    ⟨(some 11), none, .move (.t 58)⟩])
  (.seq (.ops [⟨(some 59), none, .move (.t 11)⟩,
    ⟨(some 60), none, .bin .neq (.t 59) (.c (.sc (.int .i64 (0))))⟩])
  (.cond (.t 60)
   (.seq (.ops [⟨(some 2), none, .move (.c (.sl true .full 0 []))⟩,
     ⟨(some 3), none, .move (.c (.sc (.int .i64 (21))))⟩])
   (.ret))
   (.skip))))
  (.seq (.ops [⟨(some 61), none, .move (.t 8)⟩,
    ⟨(some 2), none, .move (.t 61)⟩,
    ⟨(some 3), none, .move (.c (.sc (.int .i64 (0))))⟩])
  (.ret))))))),
  [.t 2, .t 3]⟩
theorem ok305 : EntryOk Tryz.prog 305 af305 := ⟨Tryz.f305, _, Tryz.func305, by decide, rfl, by kernel_rfl, by kernel_rfl, rfl⟩
/-- hemiola/key.place -/
noncomputable def af309 : AF := ⟨16, .seq (.ops [⟨(some 2), none, .move (.c (.sc (.int .i64 (0))))⟩])
  (.seq (.seq (.ops [⟨(some 5), none, .call (.c (.fn (.func 352) [] [])) []⟩,
    ⟨(some 6), none, .move (.c (.sc (.int .i64 (0))))⟩])
  (.block 0 (.loop (.seq (.ops [⟨(some 7), none, .bin .lss (.t 6) (.c (.sc (.int .i64 (7))))⟩])
    (.seq (.cond (.t 7)
     (.skip)
     (.exit 0))
    (.seq (.block 1 (.seq (.ops [⟨(some 8), none, .move (.t 6)⟩,
       ⟨(some 9), none, .idxA 1 7 none (.t 5) (.t 6)⟩,
       ⟨(some 3), none, .move (.t 8)⟩,
       ⟨(some 4), none, .move (.t 9)⟩])
     (.seq (.ops [⟨(some 10), none, .move (.t 4)⟩,
       ⟨(some 11), none, .move (.t 0)⟩,
       ⟨(some 12), none, .bin .eql (.t 10) (.t 11)⟩])
     (.cond (.t 12)
      (.seq (.ops [⟨(some 13), none, .move (.t 3)⟩,
        ⟨(some 14), none, .bin .sub (.t 13) (.c (.sc (.int .i64 (1))))⟩,
        ⟨(some 2), none, .move (.t 14)⟩])
      (.ret))
      (.skip)))))
    (.ops [⟨(some 15), none, .bin .add (.t 6) (.c (.sc (.int .i64 (1))))⟩,
      ⟨(some 6), none, .move (.t 15)⟩])))))))
  (.seq (.ops [⟨(some 2), none, .move (.c (.sc (.int .i64 (0))))⟩])
  (.ret))),
  [.t 2]⟩
theorem ok309 : EntryOk Tryz.prog 309 af309 := ⟨Tryz.f309, _, Tryz.func309, by decide, rfl, by kernel_rfl, by kernel_rfl, rfl⟩
/-- slices.IndexFunc[[]hemiola/api.Cell,hemiola/api.Cell] -/
noncomputable def af324 : AF := ⟨19, .seq (.ops [⟨(some 4), none, .move (.c (.sc (.int .i64 (0))))⟩])
  (.seq (.seq (.ops [⟨(some 6), none, .move (.t 0)⟩,
    ⟨(some 7), none, .len (.t 6)⟩,
    ⟨(some 8), none, .move (.c (.sc (.int .i64 (0))))⟩])
  (.block 0 (.loop (.seq (.ops [⟨(some 9), none, .bin .lss (.t 8) (.t 7)⟩])
    (.seq (.cond (.t 9)
     (.skip)
     (.exit 0))
    (.seq (.block 1 (.seq (.ops [⟨(some 10), none, .move (.t 8)⟩,
       ⟨(some 5), none, .move (.t 10)⟩])
     (.seq (.ops [⟨(some 11), none, .move (.t 1)⟩,
       ⟨(some 12), none, .move (.t 0)⟩,
       ⟨(some 13), none, .move (.t 5)⟩,
       ⟨(some 14), none, .iaddrS 2 (.t 12) (.t 13)⟩,
       ⟨(some 15), none, .load (some 2) (.t 14)⟩,
       ⟨(some 16), none, .call (.t 11) [(.t 15)]⟩])
     (.cond (.t 16)
      (.seq (.ops [⟨(some 17), none, .move (.t 5)⟩,
        ⟨(some 4), none, .move (.t 17)⟩])
      (.ret))
      (.skip)))))
    (.ops [⟨(some 18), none, .bin .add (.t 8) (.c (.sc (.int .i64 (1))))⟩,
      ⟨(some 8), none, .move (.t 18)⟩])))))))
  (.seq (.ops [⟨(some 4), none, .move (.c (.sc (.int .i64 (-1))))⟩])
  (.ret))),
  [.t 4]⟩
theorem ok324 : EntryOk Tryz.prog 324 af324 := ⟨Tryz.f324, _, Tryz.func324, by decide, rfl, by kernel_rfl, by kernel_rfl, rfl⟩
/-- slices.Equal[[]hemiola/api.Grace,hemiola/api.Grace] -/
noncomputable def af328 : AF := ⟨26, .seq (.ops [⟨(some 4), none, .move (.c (.sc (.bool false)))⟩])
  (.seq (.seq (.ops [⟨(some 6), none, .move (.t 0)⟩,
    ⟨(some 7), none, .len (.t 6)⟩,
    ⟨(some 8), none, .move (.t 1)⟩,
    ⟨(some 9), none, .len (.t 8)⟩,
    ⟨(some 10), none, .bin .neq (.t 7) (.t 9)⟩])
  (.cond (.t 10)
   (.seq (.ops [⟨(some 4), none, .move (.c (.sc (.bool false)))⟩])
   (.ret))
   (.skip)))
  (.seq (.seq (.ops [⟨(some 11), none, .move (.t 0)⟩,
    ⟨(some 12), none, .len (.t 11)⟩,
    ⟨(some 13), none, .move (.c (.sc (.int .i64 (0))))⟩])
  (.block 0 (.loop (.seq (.ops [⟨(some 14), none, .bin .lss (.t 13) (.t 12)⟩])
    (.seq (.cond (.t 14)
     (.skip)
     (.exit 0))
    (.seq (.block 1 (.seq (.ops [⟨(some 15), none, .move (.t 13)⟩,
       ⟨(some 5), none, .move (.t 15)⟩])
     (.seq (.draw [⟨false, [0], [], ⟨(some 16), none, .move (.t 0)⟩⟩,
       ⟨false, [5], [], ⟨(some 17), none, .move (.t 5)⟩⟩,
       ⟨false, [16, 17], [], ⟨(some 18), none, .iaddrS 5 (.t 16) (.t 17)⟩⟩,
       ⟨false, [18], [], ⟨(some 19), none, .load (some 5) (.t 18)⟩⟩,
       ⟨false, [1], [], ⟨(some 20), none, .move (.t 1)⟩⟩,
       ⟨false, [5], [], ⟨(some 21), none, .move (.t 5)⟩⟩,
       ⟨false, [20, 21], [], ⟨(some 22), none, .iaddrS 5 (.t 20) (.t 21)⟩⟩,
       ⟨false, [22], [], ⟨(some 23), none, .load (some 5) (.t 22)⟩⟩]
       [⟨(some 24), none, .eqC [.i, .i, .i, .i, .b] true (.t 19) (.t 23)⟩])
     (.cond (.t 24)
      (.seq (.ops [⟨(some 4), none, .move (.c (.sc (.bool false)))⟩])
      (.ret))
      (.skip)))))
    (.ops [⟨(some 25), none, .bin .add (.t 13) (.c (.sc (.int .i64 (1))))⟩,
      ⟨(some 13), none, .move (.t 25)⟩])))))))
  (.seq (.ops [⟨(some 4), none, .move (.c (.sc (.bool true)))⟩])
  (.ret)))),
  [.t 4]⟩
theorem ok328 : EntryOk Tryz.prog 328 af328 := ⟨Tryz.f328, _, Tryz.func328, by decide, rfl, by kernel_rfl, by kernel_rfl, rfl⟩
/-- hemiola/voice.written -/
noncomputable def af348 : AF := ⟨26, .seq (.ops [⟨(some 2), none, .move (.c (.sl true .full 0 []))⟩])
  (.seq (.ops [⟨(some 6), none, .move (.t 0)⟩,
    ⟨(some 7), none, .len (.t 6)⟩,
    ⟨(some 8), none, .mkSl 1 8 [(.sc (.int .i64 (0)))] (.t 7) (.t 7)⟩,
    ⟨(some 3), none, .move (.t 8)⟩])
  (.seq (.seq (.ops [⟨(some 9), none, .move (.t 0)⟩,
    ⟨(some 10), none, .len (.t 9)⟩,
    ⟨(some 11), none, .move (.c (.sc (.int .i64 (0))))⟩])
  (.block 0 (.loop (.seq (.ops [⟨(some 12), none, .bin .lss (.t 11) (.t 10)⟩])
    (.seq (.cond (.t 12)
     (.skip)
     (.exit 0))
    (.seq (.block 1 (.seq (.ops [⟨(some 13), none, .move (.t 11)⟩,
       ⟨(some 14), none, .iaddrS 13 (.t 9) (.t 11)⟩,
       ⟨(some 15), none, .load (some 13) (.t 14)⟩,
       ⟨(some 5), none, .alloc [(.sc (.int .i64 (0))), (.sc (.int .i64 (0))), (.sc (.int .i64 (0))), (.sc (.int .i64 (0))), (.sc (.int .i64 (0))), (.sl true .full 0 []), (.sl true .full 0 []), (.sc (.int .i64 (0))), (.sc (.int .i64 (0))), (.sc (.int .i64 (0))), (.sl true .full 0 []), (.sc (.int .i64 (0))), (.sc (.int .i64 (0)))]⟩,
       ⟨(some 4), none, .move (.t 13)⟩,
       ⟨none, none, .store 13 (.t 5) (.t 15)⟩])
     (.ops [⟨(some 17), none, .move (.t 3)⟩,
       ⟨(some 18), none, .move (.t 4)⟩,
       ⟨(some 19), none, .load (some 13) (.t 5)⟩,
       ⟨(some 20), none, .call (.c (.fn (.func 358) [] [])) [(.t 19)]⟩,
       ⟨(some 16), none, .move (.t 20)⟩,
       ⟨(some 21), none, .extract 0 (.t 16)⟩,
       ⟨(some 22), none, .extract 1 (.t 16)⟩,
       ⟨(some 23), none, .iaddrS 1 (.t 17) (.t 18)⟩,
       ⟨none, none, .store 1 (.t 23) (.t 21)⟩])))
    (.ops [⟨(some 24), none, .bin .add (.t 11) (.c (.sc (.int .i64 (1))))⟩,
      ⟨(some 11), none, .move (.t 24)⟩])))))))
  (.seq (.ops [⟨(some 25), none, .move (.t 3)⟩,
    ⟨(some 2), none, .move (.t 25)⟩])
  (.ret)))),
  [.t 2]⟩
theorem ok348 : EntryOk Tryz.prog 348 af348 := ⟨Tryz.f348, _, Tryz.func348, by decide, rfl, by kernel_rfl, by kernel_rfl, rfl⟩
/-- hemiola/key.sharps -/
noncomputable def af352 : AF := ⟨2, .seq (.ops [⟨(some 0), none, .alloc [(.sc (.int .i64 (0))), (.sc (.int .i64 (0))), (.sc (.int .i64 (0))), (.sc (.int .i64 (0))), (.sc (.int .i64 (0))), (.sc (.int .i64 (0))), (.sc (.int .i64 (0)))]⟩])
  (.seq (.ops [⟨(some 1), none, .build [(.sc (.int .i64 (0))), (.sc (.int .i64 (0))), (.sc (.int .i64 (0))), (.sc (.int .i64 (0))), (.sc (.int .i64 (0))), (.sc (.int .i64 (0))), (.sc (.int .i64 (0)))] [((0, 1), (.c (.sc (.int .i64 (3))))), ((1, 1), (.c (.sc (.int .i64 (0))))), ((2, 1), (.c (.sc (.int .i64 (4))))), ((3, 1), (.c (.sc (.int .i64 (1))))), ((4, 1), (.c (.sc (.int .i64 (5))))), ((5, 1), (.c (.sc (.int .i64 (2))))), ((6, 1), (.c (.sc (.int .i64 (6)))))]⟩,
    ⟨none, none, .store 7 (.t 0) (.t 1)⟩])
  (.ret)),
  [.c 0 (some 7)]⟩
theorem ok352 : EntryOk Tryz.prog 352 af352 := ⟨Tryz.f352, _, Tryz.func352, by decide, rfl, by kernel_rfl, by kernel_rfl, rfl⟩
/-- hemiola/duration.Ticks -/
noncomputable def af363 : AF := ⟨12, .seq (.ops [⟨(some 1), none, .box (.t 0)⟩,
    ⟨(some 2), none, .move (.c (.sc (.int .i64 (0))))⟩,
    ⟨(some 3), none, .move (.c (.sc (.int .i64 (0))))⟩])
  (.seq (.seq (.ops [⟨(some 5), none, .load (some 2) (.t 1)⟩,
    ⟨(some 6), none, .call (.c (.fn (.func 269) [] [])) [(.t 5)]⟩,
    ⟨(some 4), none, .move (.t 6)⟩])
  (.seq (.ops [⟨(some 7), none, .move (.t 4)⟩,
    ⟨(some 8), none, .bin .neq (.t 7) (.c (.sc (.int .i64 (0))))⟩])
  (.cond (.t 8)
   (.seq (.ops [⟨(some 9), none, .move (.t 4)⟩,
     ⟨(some 2), none, .move (.c (.sc (.int .i64 (0))))⟩,
     ⟨(some 3), none, .move (.t 9)⟩])
   (.ret))
   (.skip))))
  (.seq (.ops [⟨(some 10), none, .load (some 2) (.t 1)⟩,
    ⟨(some 11), none, .call (.c (.fn (.func 369) [] [])) [(.t 10)]⟩,
    ⟨(some 2), none, .move (.t 11)⟩,
    ⟨(some 3), none, .move (.c (.sc (.int .i64 (0))))⟩])
  (.ret))),
  [.t 2, .t 3]⟩
theorem ok363 : EntryOk Tryz.prog 363 af363 := ⟨Tryz.f363, _, Tryz.func363, by decide, rfl, by kernel_rfl, by kernel_rfl, rfl⟩
end Go.Proofs.YtmbchdfgckmpoaaGreatDoor
