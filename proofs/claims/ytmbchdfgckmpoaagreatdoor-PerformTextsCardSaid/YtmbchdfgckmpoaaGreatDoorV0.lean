/- Resolved code, printed by a program. -/
import Derived.Test.YtmbchdfgckmpoaaGreatDoorPE21
import Derived.Test.YtmbchdfgckmpoaaGreatDoorProg
namespace Go.Proofs.YtmbchdfgckmpoaaGreatDoor
open Go.PE

/-- hemiola/hemiolalaw46.known -/
noncomputable def af5 : AF := ⟨39, .seq (.ops [⟨(some 0), none, .move (.c (.sc (.bool false)))⟩])
  (.seq (.ops [⟨(some 6), none, .call (.c (.fn (.func 11) [] [])) [(.c (.sc (.int .i64 (0)))), (.c (.sc (.int .i64 (0))))]⟩,
    ⟨(some 7), none, .call (.c (.fn (.func 10) [] [])) [(.t 6)]⟩,
    ⟨(some 5), none, .move (.t 7)⟩,
    ⟨(some 8), none, .extract 0 (.t 5)⟩,
    ⟨(some 9), none, .extract 1 (.t 5)⟩,
    ⟨(some 1), none, .move (.t 8)⟩,
    ⟨(some 2), none, .move (.t 9)⟩])
  (.seq (.ops [⟨(some 11), none, .call (.c (.fn (.func 11) [] [])) [(.c (.sc (.int .i64 (4)))), (.c (.sc (.int .i64 (6))))]⟩,
    ⟨(some 12), none, .build [(.sc (.int .i64 (0))), (.sc (.int .i64 (0)))] [((1, 1), (.c (.sc (.int .i64 (4)))))]⟩,
    ⟨(some 13), none, .call (.c (.fn (.func 12) [] [])) [(.t 11), (.t 12)]⟩,
    ⟨(some 10), none, .move (.t 13)⟩,
    ⟨(some 14), none, .extract 0 (.t 10)⟩,
    ⟨(some 15), none, .extract 1 (.t 10)⟩,
    ⟨(some 3), none, .move (.t 14)⟩,
    ⟨(some 4), none, .move (.t 15)⟩])
  (.seq (.ops [⟨(some 16), none, .move (.t 2)⟩,
    ⟨(some 17), none, .bin .eql (.t 16) (.c (.sc (.int .i64 (0))))⟩,
    ⟨(some 18), none, .move (.t 17)⟩,
    ⟨(some 19), (some (18, true)), .move (.t 1)⟩,
    ⟨(some 20), (some (18, true)), .len (.t 19)⟩,
    ⟨(some 21), (some (18, true)), .bin .eql (.t 20) (.c (.sc (.int .i64 (1))))⟩,
    ⟨(some 22), none, .pick (.t 18) (.t 21) (.c (.sc (.bool false)))⟩,
    ⟨(some 23), none, .move (.t 22)⟩,
    ⟨(some 24), (some (23, true)), .move (.t 1)⟩,
    ⟨(some 25), (some (23, true)), .iaddrS 7 (.t 24) (.c (.sc (.int .i64 (0))))⟩,
    ⟨(some 26), (some (23, true)), .load (some 7) (.t 25)⟩,
    ⟨(some 27), (some (23, true)), .build [(.sc (.int .i64 (0))), (.sc (.int .i64 (0)))] [((1, 1), (.c (.sc (.int .i64 (4)))))]⟩,
    ⟨(some 28), (some (23, true)), .build [(.sc (.int .i64 (0))), (.sc (.int .i64 (0))), (.sc (.int .i64 (0))), (.sc (.int .i64 (0))), (.sc (.int .i64 (0))), (.sc (.int .i64 (0))), (.sc (.int .i64 (0)))] [((1, 1), (.c (.sc (.int .i64 (475000))))), ((2, 1), (.c (.sc (.int .i64 (60))))), ((3, 1), (.c (.sc (.int .i64 (76))))), ((5, 2), (.t 27))]⟩,
    ⟨(some 29), (some (23, true)), .eqC [.i, .i, .i, .i, .i, .i, .i] false (.t 26) (.t 28)⟩,
    ⟨(some 30), none, .pick (.t 23) (.t 29) (.c (.sc (.bool false)))⟩,
    ⟨(some 31), none, .move (.t 30)⟩,
    ⟨(some 32), (some (31, true)), .move (.t 4)⟩,
    ⟨(some 33), (some (31, true)), .bin .eql (.t 32) (.c (.sc (.int .i64 (0))))⟩,
    ⟨(some 34), none, .pick (.t 31) (.t 33) (.c (.sc (.bool false)))⟩,
    ⟨(some 35), none, .move (.t 34)⟩,
    ⟨(some 36), (some (35, true)), .move (.t 3)⟩,
    ⟨(some 37), (some (35, true)), .bin .eql (.t 36) (.c (.sc (.int .i64 (106))))⟩,
    ⟨(some 38), none, .pick (.t 35) (.t 37) (.c (.sc (.bool false)))⟩,
    ⟨(some 0), none, .move (.t 38)⟩])
  (.ret)))),
  [.t 0]⟩
theorem ok5 : EntryOk Tryz.prog 5 af5 := ⟨Tryz.f5, _, Tryz.func5, by decide, rfl, by kernel_rfl, by kernel_rfl, rfl⟩
/-- hemiola/check.Valid -/
noncomputable def af23 : AF := ⟨7, .seq (.ops [⟨(some 1), none, .box (.t 0)⟩,
    ⟨(some 2), none, .move (.c (.sc (.bool false)))⟩])
  (.seq (.ops [⟨(some 3), none, .load (some 6) (.t 1)⟩,
    ⟨(some 4), none, .call (.c (.fn (.func 43) [] [])) [(.t 3)]⟩,
    ⟨(some 5), none, .len (.t 4)⟩,
    ⟨(some 6), none, .bin .eql (.t 5) (.c (.sc (.int .i64 (0))))⟩,
    ⟨(some 2), none, .move (.t 6)⟩])
  (.ret)),
  [.t 2]⟩
theorem ok23 : EntryOk Tryz.prog 23 af23 := ⟨Tryz.f23, _, Tryz.func23, by decide, rfl, by kernel_rfl, by kernel_rfl, rfl⟩
/-- hemiola/perform.find -/
noncomputable def af27 : AF := ⟨106, .seq (.ops [⟨(some 1), none, .box (.t 0)⟩,
    ⟨(some 2), none, .move (.c (.sc (.map none)))⟩])
  (.seq (.ops [⟨(some 19), none, .mkMap⟩,
    ⟨(some 3), none, .move (.t 19)⟩])
  (.seq (.ops [⟨(some 21), none, .load (some 6) (.t 1)⟩,
    ⟨(some 22), none, .call (.c (.fn (.func 45) [] [])) [(.t 21)]⟩,
    ⟨(some 20), none, .move (.t 22)⟩,
    ⟨(some 23), none, .extract 0 (.t 20)⟩,
    ⟨(some 24), none, .extract 1 (.t 20)⟩,
    ⟨(some 4), none, .move (.t 23)⟩,
    ⟨(some 5), none, .move (.t 24)⟩])
  (.seq (.seq (.ops [⟨(some 25), none, .faddr 3 (.t 1)⟩,
    ⟨(some 26), none, .load none (.t 25)⟩,
    ⟨(some 27), none, .len (.t 26)⟩,
    ⟨(some 28), none, .move (.c (.sc (.int .i64 (0))))⟩])
  (.block 0 (.loop (.seq (.ops [⟨(some 29), none, .bin .lss (.t 28) (.t 27)⟩])
    (.seq (.cond (.t 29)
     (.skip)
     (.exit 0))
    (.seq (.block 1 (.seq (.ops [⟨(some 30), none, .move (.t 28)⟩,
       ⟨(some 6), none, .move (.t 30)⟩])
     (.seq (.ops [⟨(some 32), none, .faddr 3 (.t 1)⟩,
       ⟨(some 33), none, .load none (.t 32)⟩,
       ⟨(some 34), none, .move (.t 6)⟩,
       ⟨(some 35), none, .iaddrS 22 (.t 33) (.t 34)⟩,
       ⟨(some 36), none, .load (some 22) (.t 35)⟩,
       ⟨(some 37), none, .call (.c (.fn (.func 55) [] [])) [(.t 36)]⟩,
       ⟨(some 31), none, .move (.t 37)⟩,
       ⟨(some 38), none, .extract 0 (.t 31)⟩,
       ⟨(some 39), none, .extract 1 (.t 31)⟩,
       ⟨(some 7), none, .move (.t 38)⟩,
       ⟨(some 8), none, .move (.t 39)⟩])
     (.seq (.ops [⟨(some 40), none, .faddr 3 (.t 1)⟩,
       ⟨(some 41), none, .load none (.t 40)⟩,
       ⟨(some 42), none, .move (.t 6)⟩,
       ⟨(some 43), none, .iaddrS 22 (.t 41) (.t 42)⟩,
       ⟨(some 44), none, .faddr 21 (.t 43)⟩,
       ⟨(some 45), none, .load none (.t 44)⟩,
       ⟨(some 46), none, .len (.t 45)⟩,
       ⟨(some 47), none, .move (.c (.sc (.int .i64 (0))))⟩])
     (.block 2 (.loop (.seq (.ops [⟨(some 48), none, .bin .lss (.t 47) (.t 46)⟩])
       (.seq (.cond (.t 48)
        (.skip)
        (.exit 2))
       (.seq (.block 3 (.seq (.ops [⟨(some 49), none, .move (.t 47)⟩,
          ⟨(some 50), none, .iaddrS 2 (.t 45) (.t 47)⟩,
          ⟨(some 51), none, .load (some 2) (.t 50)⟩,
          ⟨(some 10), none, .alloc [(.sl true .full 0 []), (.sl true .full 0 [])]⟩,
          ⟨(some 9), none, .move (.t 49)⟩,
          ⟨none, none, .store 2 (.t 10) (.t 51)⟩])
        (.seq (.ops [⟨(some 52), none, .faddr 1 (.t 10)⟩,
          ⟨(some 53), none, .load none (.t 52)⟩,
          ⟨(some 54), none, .len (.t 53)⟩,
          ⟨(some 55), none, .move (.c (.sc (.int .i64 (0))))⟩])
        (.block 4 (.loop (.seq (.ops [⟨(some 56), none, .bin .lss (.t 55) (.t 54)⟩])
          (.seq (.cond (.t 56)
           (.skip)
           (.exit 4))
          (.seq (.block 5 (.seq (.ops [⟨(some 57), none, .move (.t 55)⟩,
             ⟨(some 58), none, .iaddrS 2 (.t 53) (.t 55)⟩,
             ⟨(some 59), none, .load (some 2) (.t 58)⟩,
             ⟨(some 12), none, .alloc [(.sl true .full 0 []), (.sl true .full 0 [])]⟩,
             ⟨(some 11), none, .move (.t 57)⟩,
             ⟨none, none, .store 2 (.t 12) (.t 59)⟩])
           (.seq (.ops [⟨(some 61), none, .load (some 2) (.t 12)⟩,
             ⟨(some 62), none, .move (.t 7)⟩,
             ⟨(some 63), none, .call (.c (.fn (.func 56) [] [])) [(.t 61), (.t 62)]⟩,
             ⟨(some 60), none, .move (.t 63)⟩,
             ⟨(some 64), none, .extract 0 (.t 60)⟩,
             ⟨(some 65), none, .extract 1 (.t 60)⟩,
             ⟨(some 13), none, .move (.t 64)⟩,
             ⟨(some 14), none, .move (.t 65)⟩])
           (.seq (.ops [⟨(some 67), none, .load (some 2) (.t 12)⟩,
             ⟨(some 68), none, .move (.t 7)⟩,
             ⟨(some 69), none, .call (.c (.fn (.func 57) [] [])) [(.t 67), (.t 68)]⟩,
             ⟨(some 66), none, .move (.t 69)⟩,
             ⟨(some 70), none, .extract 0 (.t 66)⟩,
             ⟨(some 71), none, .extract 1 (.t 66)⟩,
             ⟨(some 15), none, .move (.t 70)⟩,
             ⟨(some 16), none, .move (.t 71)⟩])
           (.seq (.ops [⟨(some 72), none, .faddr 0 (.t 12)⟩,
             ⟨(some 73), none, .load none (.t 72)⟩,
             ⟨(some 74), none, .len (.t 73)⟩,
             ⟨(some 75), none, .move (.c (.sc (.int .i64 (0))))⟩])
           (.block 6 (.loop (.seq (.ops [⟨(some 76), none, .bin .lss (.t 75) (.t 74)⟩])
             (.seq (.cond (.t 76)
              (.skip)
              (.exit 6))
             (.seq (.block 7 (.seq (.ops [⟨(some 77), none, .move (.t 75)⟩,
                ⟨(some 78), none, .iaddrS 13 (.t 73) (.t 75)⟩,
                ⟨(some 79), none, .load (some 13) (.t 78)⟩,
                ⟨(some 18), none, .alloc [(.sc (.int .i64 (0))), (.sc (.int .i64 (0))), (.sc (.int .i64 (0))), (.sc (.int .i64 (0))), (.sc (.int .i64 (0))), (.sl true .full 0 []), (.sl true .full 0 []), (.sc (.int .i64 (0))), (.sc (.int .i64 (0))), (.sc (.int .i64 (0))), (.sl true .full 0 []), (.sc (.int .i64 (0))), (.sc (.int .i64 (0)))]⟩,
                ⟨(some 17), none, .move (.t 77)⟩,
                ⟨none, none, .store 13 (.t 18) (.t 79)⟩])
              (.draw [⟨false, [3], [], ⟨(some 80), none, .move (.t 3)⟩⟩,
                ⟨false, [18], [], ⟨(some 81), none, .faddr 0 (.t 18)⟩⟩,
                ⟨false, [81], [], ⟨(some 82), none, .load (some 2) (.t 81)⟩⟩,
                ⟨false, [18], [], ⟨(some 83), none, .load (some 13) (.t 18)⟩⟩,
                ⟨false, [9], [], ⟨(some 84), none, .move (.t 9)⟩⟩,
                ⟨false, [11], [], ⟨(some 85), none, .move (.t 11)⟩⟩,
                ⟨false, [6], [], ⟨(some 86), none, .move (.t 6)⟩⟩,
                ⟨false, [4], [], ⟨(some 87), none, .move (.t 4)⟩⟩,
                ⟨false, [6], [], ⟨(some 88), none, .move (.t 6)⟩⟩,
                ⟨false, [87, 88], [], ⟨(some 89), none, .iaddrS 1 (.t 87) (.t 88)⟩⟩,
                ⟨false, [89], [], ⟨(some 90), none, .load none (.t 89)⟩⟩,
                ⟨false, [13], [], ⟨(some 91), none, .move (.t 13)⟩⟩,
                ⟨false, [17], [], ⟨(some 92), none, .move (.t 17)⟩⟩,
                ⟨false, [91, 92], [], ⟨(some 93), none, .iaddrS 1 (.t 91) (.t 92)⟩⟩,
                ⟨false, [93], [], ⟨(some 94), none, .load none (.t 93)⟩⟩,
                ⟨false, [90, 94], [], ⟨(some 95), none, .bin .add (.t 90) (.t 94)⟩⟩,
                ⟨false, [15], [], ⟨(some 96), none, .move (.t 15)⟩⟩,
                ⟨false, [17], [], ⟨(some 97), none, .move (.t 17)⟩⟩,
                ⟨false, [96, 97], [], ⟨(some 98), none, .iaddrS 1 (.t 96) (.t 97)⟩⟩,
                ⟨false, [98], [], ⟨(some 99), none, .load none (.t 98)⟩⟩,
                ⟨false, [83, 84, 85, 86, 95, 99], [], ⟨(some 100), none, .build [(.sc (.int .i64 (0))), (.sc (.int .i64 (0))), (.sc (.int .i64 (0))), (.sc (.int .i64 (0))), (.sc (.int .i64 (0))), (.sl true .full 0 []), (.sl true .full 0 []), (.sc (.int .i64 (0))), (.sc (.int .i64 (0))), (.sc (.int .i64 (0))), (.sl true .full 0 []), (.sc (.int .i64 (0))), (.sc (.int .i64 (0))), (.sc (.int .i64 (0))), (.sc (.int .i64 (0))), (.sc (.int .i64 (0))), (.sc (.int .i64 (0))), (.sc (.int .i64 (0)))] [((0, 13), (.t 83)), ((13, 1), (.t 84)), ((14, 1), (.t 85)), ((15, 1), (.t 86)), ((16, 1), (.t 95)), ((17, 1), (.t 99))]⟩⟩]
                [⟨none, none, .mapUp [.i, .i] true (.t 80) (.t 82) (.t 100)⟩])))
             (.ops [⟨(some 101), none, .bin .add (.t 75) (.c (.sc (.int .i64 (1))))⟩,
               ⟨(some 75), none, .move (.t 101)⟩])))))))))))
          (.ops [⟨(some 102), none, .bin .add (.t 55) (.c (.sc (.int .i64 (1))))⟩,
            ⟨(some 55), none, .move (.t 102)⟩])))))))))
       (.ops [⟨(some 103), none, .bin .add (.t 47) (.c (.sc (.int .i64 (1))))⟩,
         ⟨(some 47), none, .move (.t 103)⟩]))))))))))
    (.ops [⟨(some 104), none, .bin .add (.t 28) (.c (.sc (.int .i64 (1))))⟩,
      ⟨(some 28), none, .move (.t 104)⟩])))))))
  (.seq (.ops [⟨(some 105), none, .move (.t 3)⟩,
    ⟨(some 2), none, .move (.t 105)⟩])
  (.ret))))),
  [.t 2]⟩
theorem ok27 : EntryOk Tryz.prog 27 af27 := ⟨Tryz.f27, _, Tryz.func27, by decide, rfl, by kernel_rfl, by kernel_rfl, rfl⟩
/-- hemiola/perform.Sort -/
noncomputable def af31 : AF := ⟨9, .seq (.ops [⟨(some 2), none, .move (.c (.sl true .full 0 []))⟩])
  (.seq (.ops [⟨(some 4), none, .move (.t 0)⟩,
    ⟨(some 5), none, .call (.c (.fn (.func 67) [] [])) [(.t 4)]⟩,
    ⟨(some 3), none, .move (.t 5)⟩])
  (.seq (.ops [⟨(some 6), none, .move (.t 3)⟩,
    ⟨(some 7), none, .call (.c (.fn (.func 68) [] [])) [(.t 6), (.c (.fn (.func 69) [] []))]⟩])
  (.seq (.ops [⟨(some 8), none, .move (.t 3)⟩,
    ⟨(some 2), none, .move (.t 8)⟩])
  (.ret)))),
  [.t 2]⟩
theorem ok31 : EntryOk Tryz.prog 31 af31 := ⟨Tryz.f31, _, Tryz.func31, by decide, rfl, by kernel_rfl, by kernel_rfl, rfl⟩
/-- hemiola/unfold.order -/
noncomputable def af44 : AF := ⟨4, .seq (.ops [⟨(some 1), none, .box (.t 0)⟩,
    ⟨(some 2), none, .move (.c (.sc .nilFunc))⟩])
  (.seq (.ops [⟨(some 3), none, .mkFn (.func 109) [] [(.t 1)]⟩,
    ⟨(some 2), none, .move (.t 3)⟩])
  (.ret)),
  [.t 2]⟩
theorem ok44 : EntryOk Tryz.prog 44 af44 := ⟨Tryz.f44, _, Tryz.func44, by decide, rfl, by kernel_rfl, by kernel_rfl, rfl⟩
/-- slices.ContainsFunc[[]hemiola/api.Bar,hemiola/api.Bar] -/
noncomputable def af48 : AF := ⟨9, .seq (.ops [⟨(some 4), none, .move (.c (.sc (.bool false)))⟩])
  (.seq (.ops [⟨(some 5), none, .move (.t 0)⟩,
    ⟨(some 6), none, .move (.t 1)⟩,
    ⟨(some 7), none, .call (.c (.fn (.func 120) [] [])) [(.t 5), (.t 6)]⟩,
    ⟨(some 8), none, .bin .geq (.t 7) (.c (.sc (.int .i64 (0))))⟩,
    ⟨(some 4), none, .move (.t 8)⟩])
  (.ret)),
  [.t 4]⟩
theorem ok48 : EntryOk Tryz.prog 48 af48 := ⟨Tryz.f48, _, Tryz.func48, by decide, rfl, by kernel_rfl, by kernel_rfl, rfl⟩
/-- hemiola/tempo.add -/
noncomputable def af52 : AF := ⟨51, .seq (.ops [⟨(some 3), none, .box (.t 1)⟩,
    ⟨(some 4), none, .move (.c (.sl true .full 0 []))⟩])
  (.seq (.seq (.ops [⟨(some 6), none, .move (.t 0)⟩,
    ⟨(some 7), none, .len (.t 6)⟩,
    ⟨(some 5), none, .move (.t 7)⟩])
  (.seq (.draw [⟨true, [5], [], ⟨(some 8), none, .move (.t 5)⟩⟩,
    ⟨true, [8], [], ⟨(some 9), none, .bin .gtr (.t 8) (.c (.sc (.int .i64 (0))))⟩⟩,
    ⟨true, [9], [], ⟨(some 10), none, .move (.t 9)⟩⟩,
    ⟨false, [3, 10], [], ⟨(some 11), (some (10, true)), .faddr 2 (.t 3)⟩⟩,
    ⟨false, [11, 10], [], ⟨(some 12), (some (10, true)), .load none (.t 11)⟩⟩,
    ⟨false, [3, 10], [], ⟨(some 13), (some (10, true)), .faddr 3 (.t 3)⟩⟩,
    ⟨false, [13, 10], [], ⟨(some 14), (some (10, true)), .load none (.t 13)⟩⟩,
    ⟨true, [12, 14, 10], [], ⟨(some 15), (some (10, true)), .bin .eql (.t 12) (.t 14)⟩⟩,
    ⟨true, [10, 15], [], ⟨(some 16), none, .pick (.t 10) (.t 15) (.c (.sc (.bool false)))⟩⟩,
    ⟨true, [16], [], ⟨(some 17), none, .move (.t 16)⟩⟩,
    ⟨false, [0, 17], [], ⟨(some 18), (some (17, true)), .move (.t 0)⟩⟩,
    ⟨false, [5, 17], [], ⟨(some 19), (some (17, true)), .move (.t 5)⟩⟩,
    ⟨false, [19, 17], [], ⟨(some 20), (some (17, true)), .bin .sub (.t 19) (.c (.sc (.int .i64 (1))))⟩⟩,
    ⟨false, [18, 20, 17], [], ⟨(some 21), (some (17, true)), .iaddrS 5 (.t 18) (.t 20)⟩⟩,
    ⟨false, [21, 17], [], ⟨(some 22), (some (17, true)), .faddr 2 (.t 21)⟩⟩,
    ⟨false, [22, 17], [], ⟨(some 23), (some (17, true)), .load none (.t 22)⟩⟩,
    ⟨false, [3, 17], [], ⟨(some 24), (some (17, true)), .faddr 2 (.t 3)⟩⟩,
    ⟨false, [24, 17], [], ⟨(some 25), (some (17, true)), .load none (.t 24)⟩⟩,
    ⟨true, [23, 25, 17], [], ⟨(some 26), (some (17, true)), .bin .eql (.t 23) (.t 25)⟩⟩,
    ⟨true, [17, 26], [], ⟨(some 27), none, .pick (.t 17) (.t 26) (.c (.sc (.bool false)))⟩⟩,
    ⟨true, [27], [], ⟨(some 28), none, .move (.t 27)⟩⟩,
    ⟨false, [0, 28], [], ⟨(some 29), (some (28, true)), .move (.t 0)⟩⟩,
    ⟨false, [5, 28], [], ⟨(some 30), (some (28, true)), .move (.t 5)⟩⟩,
    ⟨false, [30, 28], [], ⟨(some 31), (some (28, true)), .bin .sub (.t 30) (.c (.sc (.int .i64 (1))))⟩⟩,
    ⟨false, [29, 31, 28], [], ⟨(some 32), (some (28, true)), .iaddrS 5 (.t 29) (.t 31)⟩⟩,
    ⟨false, [32, 28], [], ⟨(some 33), (some (28, true)), .faddr 3 (.t 32)⟩⟩,
    ⟨false, [33, 28], [], ⟨(some 34), (some (28, true)), .load none (.t 33)⟩⟩,
    ⟨false, [3, 28], [], ⟨(some 35), (some (28, true)), .faddr 2 (.t 3)⟩⟩,
    ⟨false, [35, 28], [], ⟨(some 36), (some (28, true)), .load none (.t 35)⟩⟩]
    [⟨(some 37), (some (28, true)), .bin .eql (.t 34) (.t 36)⟩,
    ⟨(some 38), none, .pick (.t 28) (.t 37) (.c (.sc (.bool false)))⟩])
  (.cond (.t 38)
   (.seq (.ops [⟨(some 39), none, .move (.t 0)⟩,
     ⟨(some 40), none, .move (.t 5)⟩,
     ⟨(some 41), none, .bin .sub (.t 40) (.c (.sc (.int .i64 (1))))⟩,
     ⟨(some 42), none, .faddr 1 (.t 3)⟩,
     ⟨(some 43), none, .load none (.t 42)⟩,
     ⟨(some 44), none, .iaddrS 5 (.t 39) (.t 41)⟩,
     ⟨(some 45), none, .faddr 1 (.t 44)⟩,
     ⟨none, none, .store 1 (.t 45) (.t 43)⟩])
   (.seq (.ops [⟨(some 46), none, .move (.t 0)⟩,
     ⟨(some 4), none, .move (.t 46)⟩])
   (.ret)))
   (.skip))))
  (.seq (.ops [⟨(some 47), none, .move (.t 0)⟩,
    ⟨(some 48), none, .load (some 5) (.t 3)⟩,
    ⟨(some 49), none, .buildSl 5 [(.t 48)]⟩,
    ⟨(some 50), none, .appendM 5 40 (.t 47) (.t 49)⟩,
    ⟨(some 4), none, .move (.t 50)⟩])
  (.ret))),
  [.t 4]⟩
theorem ok52 : EntryOk Tryz.prog 52 af52 := ⟨Tryz.f52, _, Tryz.func52, by decide, rfl, by kernel_rfl, by kernel_rfl, rfl⟩
/-- hemiola/voice.Onsets -/
noncomputable def af56 : AF := ⟨19, .seq (.ops [⟨(some 2), none, .box (.t 0)⟩,
    ⟨(some 4), none, .move (.c (.sl true .full 0 []))⟩,
    ⟨(some 5), none, .move (.c (.sc (.int .i64 (0))))⟩])
  (.seq (.ops [⟨(some 9), none, .load (some 2) (.t 2)⟩,
    ⟨(some 10), none, .move (.t 1)⟩,
    ⟨(some 11), none, .call (.c (.fn (.func 125) [] [])) [(.t 9), (.t 10)]⟩,
    ⟨(some 8), none, .move (.t 11)⟩,
    ⟨(some 12), none, .extract 0 (.t 8)⟩,
    ⟨(some 13), none, .extract 1 (.t 8)⟩,
    ⟨(some 6), none, .move (.t 12)⟩,
    ⟨(some 7), none, .move (.t 13)⟩])
  (.seq (.seq (.ops [⟨(some 14), none, .move (.t 7)⟩,
    ⟨(some 15), none, .bin .neq (.t 14) (.c (.sc (.int .i64 (0))))⟩])
  (.cond (.t 15)
   (.seq (.ops [⟨(some 16), none, .move (.t 7)⟩,
     ⟨(some 4), none, .move (.c (.sl true .full 0 []))⟩,
     ⟨(some 5), none, .move (.t 16)⟩])
   (.ret))
   (.skip)))
  (.seq (.ops [⟨(some 17), none, .move (.t 6)⟩,
    ⟨(some 18), none, .call (.c (.fn (.func 126) [] [])) [(.t 17)]⟩,
    ⟨(some 4), none, .move (.t 18)⟩,
    ⟨(some 5), none, .move (.c (.sc (.int .i64 (0))))⟩])
  (.ret)))),
  [.t 4, .t 5]⟩
theorem ok56 : EntryOk Tryz.prog 56 af56 := ⟨Tryz.f56, _, Tryz.func56, by decide, rfl, by kernel_rfl, by kernel_rfl, rfl⟩
/-- (*hemiola/perform.player).play$1 -/
noncomputable def af60 : AF := ⟨39, .seq (.seq (.ops [⟨(some 13), none, .move (.t 3)⟩,
    ⟨(some 14), none, .bin .lss (.t 13) (.c (.sc (.int .i64 (0))))⟩,
    ⟨(some 15), none, .move (.t 14)⟩,
    ⟨(some 16), (some (15, false)), .move (.t 3)⟩,
    ⟨(some 17), (some (15, false)), .bin .gtr (.t 16) (.c (.sc (.int .i64 (127))))⟩,
    ⟨(some 18), none, .pick (.t 15) (.c (.sc (.bool true))) (.t 17)⟩])
  (.cond (.t 18)
   (.ret)
   (.skip)))
  (.seq (.ops [⟨(some 19), none, .load none (.t 4)⟩,
    ⟨(some 20), none, .move (.t 0)⟩,
    ⟨(some 21), none, .call (.c (.fn (.func 61) [] [])) [(.t 19), (.t 20)]⟩,
    ⟨(some 12), none, .move (.t 21)⟩])
  (.draw [⟨false, [5], [4], ⟨(some 22), none, .load none (.t 5)⟩⟩,
    ⟨false, [12], [], ⟨(some 23), none, .move (.t 12)⟩⟩,
    ⟨false, [4], [], ⟨(some 24), none, .load none (.t 4)⟩⟩,
    ⟨false, [2], [], ⟨(some 25), none, .move (.t 2)⟩⟩,
    ⟨true, [24, 25], [], ⟨(some 26), none, .call (.c (.fn (.func 61) [] [])) [(.t 24), (.t 25)]⟩⟩,
    ⟨false, [12], [], ⟨(some 27), none, .move (.t 12)⟩⟩,
    ⟨false, [27], [], ⟨(some 28), none, .bin .add (.t 27) (.c (.sc (.int .i64 (1))))⟩⟩,
    ⟨false, [26, 28], [], ⟨(some 29), none, .mm true [(.t 26), (.t 28)]⟩⟩,
    ⟨false, [3], [], ⟨(some 30), none, .move (.t 3)⟩⟩,
    ⟨false, [6], [4], ⟨(some 31), none, .load none (.t 6)⟩⟩,
    ⟨false, [7], [], ⟨(some 32), none, .faddr 3 (.t 7)⟩⟩,
    ⟨false, [32], [4], ⟨(some 33), none, .load none (.t 32)⟩⟩,
    ⟨false, [7], [], ⟨(some 34), none, .faddr 6 (.t 7)⟩⟩,
    ⟨false, [34], [4], ⟨(some 35), none, .load (some 2) (.t 34)⟩⟩,
    ⟨false, [23, 29, 30, 31, 33, 35], [], ⟨(some 36), none, .build [(.sc (.int .i64 (0))), (.sc (.int .i64 (0))), (.sc (.int .i64 (0))), (.sc (.int .i64 (0))), (.sc (.int .i64 (0))), (.sc (.int .i64 (0))), (.sc (.int .i64 (0)))] [((0, 1), (.t 23)), ((1, 1), (.t 29)), ((2, 1), (.t 30)), ((3, 1), (.t 31)), ((4, 1), (.t 33)), ((5, 2), (.t 35))]⟩⟩,
    ⟨false, [36], [], ⟨(some 37), none, .buildSl 7 [(.t 36)]⟩⟩]
    [⟨(some 38), none, .append 7 56 (.t 22) (.t 37)⟩,
    ⟨none, none, .store 1 (.t 5) (.t 38)⟩])),
  []⟩
theorem ok60 : EntryOk Tryz.prog 60 af60 := ⟨Tryz.f60, _, Tryz.func60, by decide, rfl, by kernel_rfl, by kernel_rfl, rfl⟩
/-- hemiola/ornament.Expand -/
noncomputable def af64 : AF := ⟨122, .seq (.ops [⟨(some 8), none, .move (.c (.sl true .full 0 []))⟩,
    ⟨(some 9), none, .move (.c (.sc (.int .i64 (0))))⟩])
  (.seq (.block 0 (.seq (.ops [⟨(some 14), none, .move (.t 0)⟩,
     ⟨(some 15), none, .bin .lss (.t 14) (.c (.sc (.int .i64 (0))))⟩,
     ⟨(some 16), none, .move (.t 15)⟩,
     ⟨(some 17), (some (16, false)), .move (.t 0)⟩,
     ⟨(some 18), (some (16, false)), .bin .gtr (.t 17) (.c (.sc (.int .i64 (4))))⟩,
     ⟨(some 19), none, .pick (.t 16) (.c (.sc (.bool true))) (.t 18)⟩,
     ⟨(some 13), none, .move (.t 19)⟩])
   (.cond (.t 13)
    (.seq (.ops [⟨(some 8), none, .move (.c (.sl true .full 0 []))⟩,
      ⟨(some 9), none, .move (.c (.sc (.int .i64 (11))))⟩])
    (.ret))
    (.seq (.ops [⟨(some 21), none, .move (.t 1)⟩,
      ⟨(some 22), none, .bin .lss (.t 21) (.c (.sc (.int .i64 (1))))⟩,
      ⟨(some 23), none, .move (.t 22)⟩,
      ⟨(some 24), (some (23, false)), .move (.t 1)⟩,
      ⟨(some 25), (some (23, false)), .bin .gtr (.t 24) (.c (.sc (.int .i64 (4398046511104))))⟩,
      ⟨(some 26), none, .pick (.t 23) (.c (.sc (.bool true))) (.t 25)⟩,
      ⟨(some 27), none, .move (.t 26)⟩,
      ⟨(some 28), (some (27, false)), .move (.t 2)⟩,
      ⟨(some 29), (some (27, false)), .bin .lss (.t 28) (.c (.sc (.int .i64 (1))))⟩,
      ⟨(some 30), none, .pick (.t 27) (.c (.sc (.bool true))) (.t 29)⟩,
      ⟨(some 31), none, .move (.t 30)⟩,
      ⟨(some 32), (some (31, false)), .move (.t 2)⟩,
      ⟨(some 33), (some (31, false)), .bin .gtr (.t 32) (.c (.sc (.int .i64 (12))))⟩,
      ⟨(some 34), none, .pick (.t 31) (.c (.sc (.bool true))) (.t 33)⟩,
      ⟨(some 35), none, .move (.t 34)⟩,
      ⟨(some 36), (some (35, false)), .move (.t 3)⟩,
      ⟨(some 37), (some (35, false)), .bin .lss (.t 36) (.c (.sc (.int .i64 (-12))))⟩,
      ⟨(some 38), none, .pick (.t 35) (.c (.sc (.bool true))) (.t 37)⟩,
      ⟨(some 39), none, .move (.t 38)⟩,
      ⟨(some 40), (some (39, false)), .move (.t 3)⟩,
      ⟨(some 41), (some (39, false)), .bin .gtr (.t 40) (.c (.sc (.int .i64 (-1))))⟩,
      ⟨(some 42), none, .pick (.t 39) (.c (.sc (.bool true))) (.t 41)⟩,
      ⟨(some 20), none, .move (.t 42)⟩])
    (.cond (.t 20)
     (.seq (.ops [⟨(some 8), none, .move (.c (.sl true .full 0 []))⟩,
       ⟨(some 9), none, .move (.c (.sc (.int .i64 (2))))⟩])
     (.ret))
     (.skip))))))
  (.seq (.ops [⟨(some 10), none, .move (.c (.sl true .full 0 []))⟩])
  (.seq (.ops [⟨(some 43), none, .move (.t 1)⟩,
    ⟨(some 44), none, .bin .quo (.t 43) (.c (.sc (.int .i64 (4))))⟩,
    ⟨(some 11), none, .move (.t 44)⟩])
  (.seq (.ops [⟨(some 45), none, .move (.t 11)⟩,
    ⟨(some 46), none, .mm false [(.t 45), (.c (.sc (.int .i64 (30240))))]⟩,
    ⟨(some 12), none, .move (.t 46)⟩])
  (.seq (.block 1 (.seq (.ops [⟨(some 48), none, .move (.t 0)⟩,
     ⟨(some 49), none, .bin .eql (.t 48) (.c (.sc (.int .i64 (1))))⟩,
     ⟨(some 47), none, .move (.t 49)⟩])
   (.cond (.t 47)
    (.ops [⟨(some 50), none, .move (.t 1)⟩,
      ⟨(some 51), none, .move (.t 2)⟩,
      ⟨(some 52), none, .call (.c (.fn (.func 139) [] [])) [(.t 50), (.t 51)]⟩,
      ⟨(some 10), none, .move (.t 52)⟩])
    (.seq (.ops [⟨(some 54), none, .move (.t 0)⟩,
      ⟨(some 55), none, .bin .eql (.t 54) (.c (.sc (.int .i64 (4))))⟩,
      ⟨(some 56), none, .move (.t 55)⟩,
      ⟨(some 57), (some (56, true)), .move (.t 11)⟩,
      ⟨(some 58), (some (56, true)), .bin .gtr (.t 57) (.c (.sc (.int .i64 (0))))⟩,
      ⟨(some 59), none, .pick (.t 56) (.t 58) (.c (.sc (.bool false)))⟩,
      ⟨(some 53), none, .move (.t 59)⟩])
    (.cond (.t 53)
     (.ops [⟨(some 60), none, .move (.t 11)⟩,
       ⟨(some 61), none, .move (.t 2)⟩,
       ⟨(some 62), none, .build [(.sc (.int .i64 (0))), (.sc (.int .i64 (0))), (.sc (.int .i64 (0)))] [((0, 1), (.c (.sc (.int .i64 (0))))), ((1, 1), (.t 60)), ((2, 1), (.t 61))]⟩,
       ⟨(some 63), none, .move (.t 11)⟩,
       ⟨(some 64), none, .move (.t 11)⟩,
       ⟨(some 65), none, .bin .mul (.c (.sc (.int .i64 (2)))) (.t 64)⟩,
       ⟨(some 66), none, .build [(.sc (.int .i64 (0))), (.sc (.int .i64 (0))), (.sc (.int .i64 (0)))] [((0, 1), (.t 63)), ((1, 1), (.t 65)), ((2, 1), (.c (.sc (.int .i64 (0)))))]⟩,
       ⟨(some 67), none, .move (.t 11)⟩,
       ⟨(some 68), none, .bin .mul (.c (.sc (.int .i64 (2)))) (.t 67)⟩,
       ⟨(some 69), none, .move (.t 11)⟩,
       ⟨(some 70), none, .bin .mul (.c (.sc (.int .i64 (3)))) (.t 69)⟩,
       ⟨(some 71), none, .move (.t 3)⟩,
       ⟨(some 72), none, .build [(.sc (.int .i64 (0))), (.sc (.int .i64 (0))), (.sc (.int .i64 (0)))] [((0, 1), (.t 68)), ((1, 1), (.t 70)), ((2, 1), (.t 71))]⟩,
       ⟨(some 73), none, .move (.t 11)⟩,
       ⟨(some 74), none, .bin .mul (.c (.sc (.int .i64 (3)))) (.t 73)⟩,
       ⟨(some 75), none, .move (.t 1)⟩,
       ⟨(some 76), none, .build [(.sc (.int .i64 (0))), (.sc (.int .i64 (0))), (.sc (.int .i64 (0)))] [((0, 1), (.t 74)), ((1, 1), (.t 75)), ((2, 1), (.c (.sc (.int .i64 (0)))))]⟩,
       ⟨(some 77), none, .buildSl 3 [(.t 62), (.t 66), (.t 72), (.t 76)]⟩,
       ⟨(some 10), none, .move (.t 77)⟩])
     (.seq (.ops [⟨(some 79), none, .move (.t 0)⟩,
       ⟨(some 80), none, .bin .eql (.t 79) (.c (.sc (.int .i64 (2))))⟩,
       ⟨(some 81), none, .move (.t 80)⟩,
       ⟨(some 82), (some (81, true)), .move (.t 11)⟩,
       ⟨(some 83), (some (81, true)), .bin .gtr (.t 82) (.c (.sc (.int .i64 (0))))⟩,
       ⟨(some 84), none, .pick (.t 81) (.t 83) (.c (.sc (.bool false)))⟩,
       ⟨(some 78), none, .move (.t 84)⟩])
     (.cond (.t 78)
      (.ops [⟨(some 85), none, .move (.t 12)⟩,
        ⟨(some 86), none, .build [(.sc (.int .i64 (0))), (.sc (.int .i64 (0))), (.sc (.int .i64 (0)))] [((0, 1), (.c (.sc (.int .i64 (0))))), ((1, 1), (.t 85)), ((2, 1), (.c (.sc (.int .i64 (0)))))]⟩,
        ⟨(some 87), none, .move (.t 12)⟩,
        ⟨(some 88), none, .move (.t 12)⟩,
        ⟨(some 89), none, .bin .mul (.c (.sc (.int .i64 (2)))) (.t 88)⟩,
        ⟨(some 90), none, .move (.t 3)⟩,
        ⟨(some 91), none, .build [(.sc (.int .i64 (0))), (.sc (.int .i64 (0))), (.sc (.int .i64 (0)))] [((0, 1), (.t 87)), ((1, 1), (.t 89)), ((2, 1), (.t 90))]⟩,
        ⟨(some 92), none, .move (.t 12)⟩,
        ⟨(some 93), none, .bin .mul (.c (.sc (.int .i64 (2)))) (.t 92)⟩,
        ⟨(some 94), none, .move (.t 1)⟩,
        ⟨(some 95), none, .build [(.sc (.int .i64 (0))), (.sc (.int .i64 (0))), (.sc (.int .i64 (0)))] [((0, 1), (.t 93)), ((1, 1), (.t 94)), ((2, 1), (.c (.sc (.int .i64 (0)))))]⟩,
        ⟨(some 96), none, .buildSl 3 [(.t 86), (.t 91), (.t 95)]⟩,
        ⟨(some 10), none, .move (.t 96)⟩])
      (.seq (.ops [⟨(some 98), none, .move (.t 0)⟩,
        ⟨(some 99), none, .bin .eql (.t 98) (.c (.sc (.int .i64 (3))))⟩,
        ⟨(some 100), none, .move (.t 99)⟩,
        ⟨(some 101), (some (100, true)), .move (.t 11)⟩,
        ⟨(some 102), (some (100, true)), .bin .gtr (.t 101) (.c (.sc (.int .i64 (0))))⟩,
        ⟨(some 103), none, .pick (.t 100) (.t 102) (.c (.sc (.bool false)))⟩,
        ⟨(some 97), none, .move (.t 103)⟩])
      (.cond (.t 97)
       (.ops [⟨(some 104), none, .move (.t 12)⟩,
         ⟨(some 105), none, .build [(.sc (.int .i64 (0))), (.sc (.int .i64 (0))), (.sc (.int .i64 (0)))] [((0, 1), (.c (.sc (.int .i64 (0))))), ((1, 1), (.t 104)), ((2, 1), (.c (.sc (.int .i64 (0)))))]⟩,
         ⟨(some 106), none, .move (.t 12)⟩,
         ⟨(some 107), none, .move (.t 12)⟩,
         ⟨(some 108), none, .bin .mul (.c (.sc (.int .i64 (2)))) (.t 107)⟩,
         ⟨(some 109), none, .move (.t 2)⟩,
         ⟨(some 110), none, .build [(.sc (.int .i64 (0))), (.sc (.int .i64 (0))), (.sc (.int .i64 (0)))] [((0, 1), (.t 106)), ((1, 1), (.t 108)), ((2, 1), (.t 109))]⟩,
         ⟨(some 111), none, .move (.t 12)⟩,
         ⟨(some 112), none, .bin .mul (.c (.sc (.int .i64 (2)))) (.t 111)⟩,
         ⟨(some 113), none, .move (.t 1)⟩,
         ⟨(some 114), none, .build [(.sc (.int .i64 (0))), (.sc (.int .i64 (0))), (.sc (.int .i64 (0)))] [((0, 1), (.t 112)), ((1, 1), (.t 113)), ((2, 1), (.c (.sc (.int .i64 (0)))))]⟩,
         ⟨(some 115), none, .buildSl 3 [(.t 105), (.t 110), (.t 114)]⟩,
         ⟨(some 10), none, .move (.t 115)⟩])
       (.skip))))))))))
  (.seq (.seq (.ops [⟨(some 116), none, .move (.t 10)⟩,
    ⟨(some 117), none, .eqN .sl false (.t 116) (.c (.sl true .full 0 []))⟩])
  (.cond (.t 117)
   (.ops [⟨(some 118), none, .move (.t 1)⟩,
     ⟨(some 119), none, .build [(.sc (.int .i64 (0))), (.sc (.int .i64 (0))), (.sc (.int .i64 (0)))] [((0, 1), (.c (.sc (.int .i64 (0))))), ((1, 1), (.t 118)), ((2, 1), (.c (.sc (.int .i64 (0)))))]⟩,
     ⟨(some 120), none, .buildSl 3 [(.t 119)]⟩,
     ⟨(some 10), none, .move (.t 120)⟩])
   (.skip)))
  (.seq (.ops [⟨(some 121), none, .move (.t 10)⟩,
    ⟨(some 8), none, .move (.t 121)⟩,
    ⟨(some 9), none, .move (.c (.sc (.int .i64 (0))))⟩])
  (.ret)))))))),
  [.t 8, .t 9]⟩
theorem ok64 : EntryOk Tryz.prog 64 af64 := ⟨Tryz.f64, _, Tryz.func64, by decide, rfl, by kernel_rfl, by kernel_rfl, rfl⟩
/-- slices.SortStableFunc[[]hemiola/api.Played,hemiola/api.Played] -/
noncomputable def af68 : AF := ⟨9, .ops [⟨(some 4), none, .move (.t 0)⟩,
    ⟨(some 5), none, .move (.t 0)⟩,
    ⟨(some 6), none, .len (.t 5)⟩,
    ⟨(some 7), none, .move (.t 1)⟩,
    ⟨(some 8), none, .call (.c (.fn (.func 142) [] [])) [(.t 4), (.t 6), (.t 7)]⟩],
  []⟩
theorem ok68 : EntryOk Tryz.prog 68 af68 := ⟨Tryz.f68, _, Tryz.func68, by decide, rfl, by kernel_rfl, by kernel_rfl, rfl⟩
/-- hemiola/perform.levels$3 -/
noncomputable def af77 : AF := ⟨94, .seq (.ops [⟨(some 3), none, .box (.t 0)⟩,
    ⟨(some 4), none, .move (.c (.sc (.int .i64 (0))))⟩])
  (.seq (.ops [⟨(some 5), none, .move (.c (.sc (.int .i64 (76))))⟩,
    ⟨(some 6), none, .move (.c (.sc (.int .i64 (-1))))⟩])
  (.seq (.seq (.ops [⟨(some 13), none, .load none (.t 1)⟩,
    ⟨(some 14), none, .len (.t 13)⟩,
    ⟨(some 15), none, .mkFn (.func 79) [] [(.t 1), (.t 3)]⟩,
    ⟨(some 16), none, .call (.c (.fn (.func 78) [] [])) [(.t 14), (.t 15)]⟩,
    ⟨(some 7), none, .move (.t 16)⟩])
  (.seq (.ops [⟨(some 17), none, .move (.t 7)⟩,
    ⟨(some 18), none, .bin .gtr (.t 17) (.c (.sc (.int .i64 (0))))⟩])
  (.cond (.t 18)
   (.seq (.ops [⟨(some 20), none, .load none (.t 1)⟩,
     ⟨(some 21), none, .move (.t 7)⟩,
     ⟨(some 22), none, .bin .sub (.t 21) (.c (.sc (.int .i64 (1))))⟩,
     ⟨(some 23), none, .iaddrS 18 (.t 20) (.t 22)⟩,
     ⟨(some 24), none, .faddr 0 (.t 23)⟩,
     ⟨(some 25), none, .faddr 9 (.t 24)⟩,
     ⟨(some 26), none, .load none (.t 25)⟩,
     ⟨(some 27), none, .call (.c (.fn (.func 70) [] [])) [(.t 26)]⟩,
     ⟨(some 19), none, .move (.t 27)⟩,
     ⟨(some 28), none, .extract 0 (.t 19)⟩,
     ⟨(some 29), none, .extract 1 (.t 19)⟩,
     ⟨(some 5), none, .move (.t 28)⟩])
   (.ops [⟨(some 30), none, .load none (.t 1)⟩,
     ⟨(some 31), none, .move (.t 7)⟩,
     ⟨(some 32), none, .bin .sub (.t 31) (.c (.sc (.int .i64 (1))))⟩,
     ⟨(some 33), none, .iaddrS 18 (.t 30) (.t 32)⟩,
     ⟨(some 34), none, .faddr 16 (.t 33)⟩,
     ⟨(some 35), none, .load none (.t 34)⟩,
     ⟨(some 6), none, .move (.t 35)⟩]))
   (.skip))))
  (.seq (.seq (.ops [⟨(some 36), none, .load none (.t 2)⟩,
    ⟨(some 37), none, .len (.t 36)⟩,
    ⟨(some 38), none, .move (.c (.sc (.int .i64 (0))))⟩])
  (.block 0 (.loop (.seq (.ops [⟨(some 39), none, .bin .lss (.t 38) (.t 37)⟩])
    (.seq (.cond (.t 39)
     (.skip)
     (.exit 0))
    (.seq (.block 1 (.seq (.ops [⟨(some 40), none, .iaddrS 16 (.t 36) (.t 38)⟩,
       ⟨(some 41), none, .load (some 16) (.t 40)⟩,
       ⟨(some 9), none, .alloc [(.sc (.int .i64 (0))), (.sc (.int .i64 (0))), (.sc (.bool false)), (.sc (.int .i64 (0))), (.sc (.int .i64 (0))), (.sc (.int .i64 (0))), (.sc (.int .i64 (0))), (.sc (.int .i64 (0))), (.sl true .full 0 []), (.sl true .full 0 []), (.sc (.int .i64 (0))), (.sc (.int .i64 (0))), (.sc (.int .i64 (0))), (.sl true .full 0 []), (.sc (.int .i64 (0))), (.sc (.int .i64 (0)))]⟩,
       ⟨none, none, .store 16 (.t 9) (.t 41)⟩])
     (.seq (.seq (.ops [⟨(some 42), none, .faddr 0 (.t 9)⟩,
       ⟨(some 43), none, .load none (.t 42)⟩,
       ⟨(some 44), none, .move (.t 6)⟩,
       ⟨(some 45), none, .bin .lss (.t 43) (.t 44)⟩,
       ⟨(some 46), none, .move (.t 45)⟩,
       ⟨(some 47), (some (46, false)), .faddr 0 (.t 9)⟩,
       ⟨(some 48), (some (46, false)), .load none (.t 47)⟩,
       ⟨(some 49), (some (46, false)), .load none (.t 3)⟩,
       ⟨(some 50), (some (46, false)), .bin .gtr (.t 48) (.t 49)⟩,
       ⟨(some 51), none, .pick (.t 46) (.c (.sc (.bool true))) (.t 50)⟩])
     (.cond (.t 51)
      (.exit 1)
      (.skip)))
     (.seq (.ops [⟨(some 53), none, .faddr 3 (.t 9)⟩,
       ⟨(some 54), none, .faddr 9 (.t 53)⟩,
       ⟨(some 55), none, .load none (.t 54)⟩,
       ⟨(some 56), none, .call (.c (.fn (.func 70) [] [])) [(.t 55)]⟩,
       ⟨(some 52), none, .move (.t 56)⟩,
       ⟨(some 57), none, .extract 0 (.t 52)⟩,
       ⟨(some 58), none, .extract 1 (.t 52)⟩,
       ⟨(some 10), none, .move (.t 57)⟩,
       ⟨(some 11), none, .move (.t 58)⟩])
     (.seq (.seq (.ops [⟨(some 59), none, .move (.t 11)⟩,
       ⟨(some 60), none, .un .not (.t 59)⟩])
     (.cond (.t 60)
      (.seq (.ops [⟨(some 12), none, .move (.c (.sc (.int .i64 (14))))⟩])
      (.seq (.seq (.ops [⟨(some 61), none, .faddr 2 (.t 9)⟩,
        ⟨(some 62), none, .load none (.t 61)⟩,
        ⟨(some 63), none, .un .not (.t 62)⟩])
      (.cond (.t 63)
       (.ops [⟨(some 64), none, .move (.t 12)⟩,
         ⟨(some 65), none, .un .neg (.t 64)⟩,
         ⟨(some 12), none, .move (.t 65)⟩])
       (.skip)))
      (.ops [⟨(some 66), none, .move (.t 5)⟩,
        ⟨(some 67), none, .move (.t 12)⟩,
        ⟨(some 68), none, .bin .add (.t 66) (.t 67)⟩,
        ⟨(some 69), none, .mm true [(.t 68), (.c (.sc (.int .i64 (1))))]⟩,
        ⟨(some 70), none, .mm false [(.t 69), (.c (.sc (.int .i64 (127))))]⟩,
        ⟨(some 10), none, .move (.t 70)⟩])))
      (.skip)))
     (.seq (.ops [⟨(some 71), none, .load none (.t 3)⟩,
       ⟨(some 72), none, .faddr 1 (.t 9)⟩,
       ⟨(some 73), none, .load none (.t 72)⟩,
       ⟨(some 74), none, .bin .geq (.t 71) (.t 73)⟩])
     (.cond (.t 74)
      (.ops [⟨(some 75), none, .move (.t 10)⟩,
        ⟨(some 5), none, .move (.t 75)⟩])
      (.ops [⟨(some 76), none, .move (.t 5)⟩,
        ⟨(some 77), none, .move (.t 10)⟩,
        ⟨(some 78), none, .move (.t 5)⟩,
        ⟨(some 79), none, .bin .sub (.t 77) (.t 78)⟩,
        ⟨(some 80), none, .load none (.t 3)⟩,
        ⟨(some 81), none, .faddr 0 (.t 9)⟩,
        ⟨(some 82), none, .load none (.t 81)⟩,
        ⟨(some 83), none, .bin .sub (.t 80) (.t 82)⟩,
        ⟨(some 84), none, .bin .mul (.t 79) (.t 83)⟩,
        ⟨(some 85), none, .faddr 1 (.t 9)⟩,
        ⟨(some 86), none, .load none (.t 85)⟩,
        ⟨(some 87), none, .faddr 0 (.t 9)⟩,
        ⟨(some 88), none, .load none (.t 87)⟩,
        ⟨(some 89), none, .bin .sub (.t 86) (.t 88)⟩,
        ⟨(some 90), none, .call (.c (.fn (.func 80) [] [])) [(.t 84), (.t 89)]⟩,
        ⟨(some 91), none, .bin .add (.t 76) (.t 90)⟩,
        ⟨(some 5), none, .move (.t 91)⟩]))))))))
    (.ops [⟨(some 92), none, .bin .add (.t 38) (.c (.sc (.int .i64 (1))))⟩,
      ⟨(some 38), none, .move (.t 92)⟩])))))))
  (.seq (.ops [⟨(some 93), none, .move (.t 5)⟩,
    ⟨(some 4), none, .move (.t 93)⟩])
  (.ret))))),
  [.t 4]⟩
theorem ok77 : EntryOk Tryz.prog 77 af77 := ⟨Tryz.f77, _, Tryz.func77, by decide, rfl, by kernel_rfl, by kernel_rfl, rfl⟩
/-- (*hemiola/check.checker).ids -/
noncomputable def af93 : AF := ⟨86, .seq (.ops [⟨(some 8), none, .mkMap⟩,
    ⟨(some 2), none, .move (.t 8)⟩])
  (.seq (.seq (.ops [⟨(some 9), none, .move (.t 0)⟩,
    ⟨(some 10), none, .nilCheck (.t 9)⟩,
    ⟨(some 11), none, .faddr 0 (.t 10)⟩,
    ⟨(some 12), none, .load (some 6) (.t 11)⟩,
    ⟨(some 13), none, .call (.c (.fn (.func 168) [] [])) [(.t 12)]⟩,
    ⟨(some 14), none, .len (.t 13)⟩,
    ⟨(some 15), none, .move (.c (.sc (.int .i64 (0))))⟩])
  (.block 0 (.loop (.seq (.ops [⟨(some 16), none, .bin .lss (.t 15) (.t 14)⟩])
    (.seq (.cond (.t 16)
     (.skip)
     (.exit 0))
    (.seq (.block 1 (.seq (.ops [⟨(some 17), none, .iaddrS 2 (.t 13) (.t 15)⟩,
       ⟨(some 18), none, .load (some 2) (.t 17)⟩,
       ⟨(some 4), none, .alloc [(.sc (.int .i64 (0))), (.sc (.int .i64 (0)))]⟩,
       ⟨none, none, .store 2 (.t 4) (.t 18)⟩])
     (.seq (.draw [⟨false, [0], [], ⟨(some 19), none, .move (.t 0)⟩⟩,
       ⟨false, [4], [], ⟨(some 20), none, .load (some 2) (.t 4)⟩⟩,
       ⟨true, [20], [], ⟨(some 21), none, .call (.c (.fn (.func 169) [] [])) [(.t 20)]⟩⟩,
       ⟨false, [21], [], ⟨(some 22), none, .un .not (.t 21)⟩⟩,
       ⟨false, [22], [], ⟨(some 23), none, .move (.t 22)⟩⟩,
       ⟨false, [2, 23], [], ⟨(some 24), (some (23, false)), .move (.t 2)⟩⟩,
       ⟨false, [4, 23], [], ⟨(some 25), (some (23, false)), .load (some 2) (.t 4)⟩⟩,
       ⟨true, [24, 25, 23], [], ⟨(some 26), (some (23, false)), .lookup [.i, .i] true (.sc (.bool false)) (.t 24) (.t 25) false⟩⟩,
       ⟨false, [23, 26], [], ⟨(some 27), none, .pick (.t 23) (.c (.sc (.bool true))) (.t 26)⟩⟩,
       ⟨false, [27], [], ⟨(some 28), none, .move (.t 27)⟩⟩,
       ⟨false, [4, 28], [], ⟨(some 29), (some (28, false)), .faddr 1 (.t 4)⟩⟩,
       ⟨false, [29, 28], [18], ⟨(some 30), (some (28, false)), .load none (.t 29)⟩⟩,
       ⟨false, [0, 28], [], ⟨(some 31), (some (28, false)), .move (.t 0)⟩⟩,
       ⟨false, [31, 28], [], ⟨(some 32), (some (28, false)), .nilCheck (.t 31)⟩⟩,
       ⟨false, [32, 28], [], ⟨(some 33), (some (28, false)), .faddr 0 (.t 32)⟩⟩,
       ⟨false, [33, 28], [], ⟨(some 34), (some (28, false)), .load (some 6) (.t 33)⟩⟩,
       ⟨false, [4, 28], [], ⟨(some 35), (some (28, false)), .faddr 0 (.t 4)⟩⟩,
       ⟨false, [35, 28], [], ⟨(some 36), (some (28, false)), .load none (.t 35)⟩⟩,
       ⟨true, [34, 36, 28], [], ⟨(some 37), (some (28, false)), .call (.c (.fn (.func 170) [] [])) [(.t 34), (.t 36)]⟩⟩,
       ⟨false, [30, 37, 28], [], ⟨(some 38), (some (28, false)), .bin .gtr (.t 30) (.t 37)⟩⟩,
       ⟨false, [28, 38], [], ⟨(some 39), none, .pick (.t 28) (.c (.sc (.bool true))) (.t 38)⟩⟩,
       ⟨false, [4], [2, 7, 18], ⟨(some 40), none, .load (some 2) (.t 4)⟩⟩]
       [⟨(some 41), none, .call (.c (.fn (.func 164) [] [])) [(.t 19), (.t 39), (.t 40)]⟩])
     (.ops [⟨(some 42), none, .move (.t 2)⟩,
       ⟨(some 43), none, .load (some 2) (.t 4)⟩,
       ⟨none, none, .mapUp [.i, .i] true (.t 42) (.t 43) (.c (.sc (.bool true)))⟩]))))
    (.ops [⟨(some 44), none, .bin .add (.t 15) (.c (.sc (.int .i64 (1))))⟩,
      ⟨(some 15), none, .move (.t 44)⟩])))))))
  (.seq (.ops [⟨(some 5), none, .move (.c (.sc (.bool false)))⟩])
  (.seq (.seq (.ops [⟨(some 45), none, .move (.t 0)⟩,
    ⟨(some 46), none, .nilCheck (.t 45)⟩,
    ⟨(some 47), none, .faddr 0 (.t 46)⟩,
    ⟨(some 48), none, .faddr 5 (.t 47)⟩,
    ⟨(some 49), none, .load none (.t 48)⟩,
    ⟨(some 50), none, .len (.t 49)⟩,
    ⟨(some 51), none, .move (.c (.sc (.int .i64 (0))))⟩])
  (.block 2 (.loop (.seq (.ops [⟨(some 52), none, .bin .lss (.t 51) (.t 50)⟩])
    (.seq (.cond (.t 52)
     (.skip)
     (.exit 2))
    (.seq (.block 3 (.seq (.ops [⟨(some 53), none, .move (.t 51)⟩,
       ⟨(some 54), none, .iaddrS 2 (.t 49) (.t 51)⟩,
       ⟨(some 55), none, .load (some 2) (.t 54)⟩,
       ⟨(some 7), none, .alloc [(.sc (.int .i64 (0))), (.sc (.int .i64 (0)))]⟩,
       ⟨(some 6), none, .move (.t 53)⟩,
       ⟨none, none, .store 2 (.t 7) (.t 55)⟩])
     (.draw [⟨true, [5], [], ⟨(some 56), none, .move (.t 5)⟩⟩,
       ⟨true, [56], [], ⟨(some 57), none, .move (.t 56)⟩⟩,
       ⟨true, [7, 57], [], ⟨(some 58), (some (57, false)), .load (some 2) (.t 7)⟩⟩,
       ⟨true, [58, 57], [], ⟨(some 59), (some (57, false)), .call (.c (.fn (.func 169) [] [])) [(.t 58)]⟩⟩,
       ⟨true, [59, 57], [], ⟨(some 60), (some (57, false)), .un .not (.t 59)⟩⟩,
       ⟨true, [57, 60], [], ⟨(some 61), none, .pick (.t 57) (.c (.sc (.bool true))) (.t 60)⟩⟩,
       ⟨true, [61], [], ⟨(some 62), none, .move (.t 61)⟩⟩,
       ⟨true, [6, 62], [], ⟨(some 63), (some (62, false)), .move (.t 6)⟩⟩,
       ⟨true, [63, 62], [], ⟨(some 64), (some (62, false)), .bin .gtr (.t 63) (.c (.sc (.int .i64 (0))))⟩⟩,
       ⟨true, [64, 62], [], ⟨(some 65), (some (62, false)), .move (.t 64)⟩⟩,
       ⟨false, [7, 65], [], ⟨(some 66), (some (65, true)), .faddr 0 (.t 7)⟩⟩,
       ⟨false, [66, 65], [], ⟨(some 67), (some (65, true)), .load none (.t 66)⟩⟩,
       ⟨false, [0, 65], [], ⟨(some 68), (some (65, true)), .move (.t 0)⟩⟩,
       ⟨false, [68, 65], [], ⟨(some 69), (some (65, true)), .nilCheck (.t 68)⟩⟩,
       ⟨false, [69, 65], [], ⟨(some 70), (some (65, true)), .faddr 0 (.t 69)⟩⟩,
       ⟨false, [70, 65], [], ⟨(some 71), (some (65, true)), .faddr 5 (.t 70)⟩⟩,
       ⟨false, [71, 65], [], ⟨(some 72), (some (65, true)), .load none (.t 71)⟩⟩,
       ⟨false, [6, 65], [], ⟨(some 73), (some (65, true)), .move (.t 6)⟩⟩,
       ⟨false, [73, 65], [], ⟨(some 74), (some (65, true)), .bin .sub (.t 73) (.c (.sc (.int .i64 (1))))⟩⟩,
       ⟨false, [72, 74, 65], [], ⟨(some 75), (some (65, true)), .iaddrS 2 (.t 72) (.t 74)⟩⟩,
       ⟨false, [75, 65], [], ⟨(some 76), (some (65, true)), .faddr 0 (.t 75)⟩⟩,
       ⟨false, [76, 65], [], ⟨(some 77), (some (65, true)), .load none (.t 76)⟩⟩]
       [⟨(some 78), (some (65, true)), .bin .leq (.t 67) (.t 77)⟩,
       ⟨(some 79), (some (62, false)), .pick (.t 65) (.t 78) (.c (.sc (.bool false)))⟩,
       ⟨(some 80), none, .pick (.t 62) (.c (.sc (.bool true))) (.t 79)⟩,
       ⟨(some 5), none, .move (.t 80)⟩])))
    (.ops [⟨(some 81), none, .bin .add (.t 51) (.c (.sc (.int .i64 (1))))⟩,
      ⟨(some 51), none, .move (.t 81)⟩])))))))
  (.ops [⟨(some 82), none, .move (.t 0)⟩,
    ⟨(some 83), none, .move (.t 5)⟩,
    ⟨(some 84), none, .build [(.sc (.int .i64 (0))), (.sc (.int .i64 (0)))] []⟩,
    ⟨(some 85), none, .call (.c (.fn (.func 164) [] [])) [(.t 82), (.t 83), (.t 84)]⟩])))),
  []⟩
theorem ok93 : EntryOk Tryz.prog 93 af93 := ⟨Tryz.f93, _, Tryz.func93, by decide, rfl, by kernel_rfl, by kernel_rfl, rfl⟩
/-- (*hemiola/check.checker).voices -/
noncomputable def af97 : AF := ⟨4, .ops [⟨(some 2), none, .move (.t 0)⟩,
    ⟨(some 3), none, .call (.c (.fn (.func 176) [] [])) [(.t 2), (.c (.fn (.func 177) [] []))]⟩],
  []⟩
theorem ok97 : EntryOk Tryz.prog 97 af97 := ⟨Tryz.f97, _, Tryz.func97, by decide, rfl, by kernel_rfl, by kernel_rfl, rfl⟩
/-- (*hemiola/check.checker).ties -/
noncomputable def af101 : AF := ⟨5, .seq (.ops [⟨(some 1), none, .box (.t 0)⟩])
  (.ops [⟨(some 2), none, .load none (.t 1)⟩,
    ⟨(some 3), none, .mkFn (.func 188) [] [(.t 1)]⟩,
    ⟨(some 4), none, .call (.c (.fn (.func 179) [] [])) [(.t 2), (.t 3)]⟩]),
  []⟩
theorem ok101 : EntryOk Tryz.prog 101 af101 := ⟨Tryz.f101, _, Tryz.func101, by decide, rfl, by kernel_rfl, by kernel_rfl, rfl⟩
/-- (*hemiola/check.checker).repeats -/
noncomputable def af105 : AF := ⟨80, .seq (.ops [⟨(some 8), none, .move (.t 0)⟩,
    ⟨(some 9), none, .nilCheck (.t 8)⟩,
    ⟨(some 10), none, .faddr 7 (.t 9)⟩,
    ⟨(some 11), none, .load none (.t 10)⟩,
    ⟨(some 12), none, .len (.t 11)⟩,
    ⟨(some 2), none, .move (.t 12)⟩])
  (.seq (.ops [⟨(some 13), none, .move (.t 0)⟩,
    ⟨(some 14), none, .call (.c (.fn (.func 171) [] [])) [(.t 13), (.c (.fn (.func 197) [] []))]⟩])
  (.seq (.seq (.ops [⟨(some 15), none, .move (.t 0)⟩,
    ⟨(some 16), none, .nilCheck (.t 15)⟩,
    ⟨(some 17), none, .faddr 7 (.t 16)⟩,
    ⟨(some 18), none, .load none (.t 17)⟩,
    ⟨(some 19), none, .len (.t 18)⟩,
    ⟨(some 20), none, .move (.t 2)⟩,
    ⟨(some 21), none, .bin .gtr (.t 19) (.t 20)⟩])
  (.cond (.t 21)
   (.ret)
   (.skip)))
  (.seq (.ops [⟨(some 3), none, .alloc [(.sc (.bool false)), (.sc (.int .i64 (0))), (.sc (.int .i64 (0))), (.sc (.int .i64 (0))), (.sc (.bool false)), (.sc (.int .i64 (0)))]⟩])
  (.seq (.ops [⟨(some 4), none, .move (.c (.sc (.bool true)))⟩])
  (.seq (.seq (.ops [⟨(some 22), none, .move (.t 0)⟩,
    ⟨(some 23), none, .nilCheck (.t 22)⟩,
    ⟨(some 24), none, .faddr 0 (.t 23)⟩,
    ⟨(some 25), none, .faddr 3 (.t 24)⟩,
    ⟨(some 26), none, .load none (.t 25)⟩,
    ⟨(some 27), none, .len (.t 26)⟩,
    ⟨(some 28), none, .move (.c (.sc (.int .i64 (0))))⟩])
  (.block 0 (.loop (.seq (.ops [⟨(some 29), none, .bin .lss (.t 28) (.t 27)⟩])
    (.seq (.cond (.t 29)
     (.skip)
     (.exit 0))
    (.seq (.block 1 (.seq (.ops [⟨(some 30), none, .iaddrS 22 (.t 26) (.t 28)⟩,
       ⟨(some 31), none, .load (some 22) (.t 30)⟩,
       ⟨(some 6), none, .alloc [(.sc (.int .i64 (0))), (.sc (.int .i64 (0))), (.sc (.int .i64 (0))), (.sc (.int .i64 (0))), (.sc (.int .i64 (0))), (.sc (.int .i64 (0))), (.sc (.int .i64 (0))), (.sc (.int .i64 (0))), (.sc (.int .i64 (0))), (.sc (.int .i64 (0))), (.sc (.int .i64 (0))), (.sc (.int .i64 (0))), (.sc (.bool false)), (.sc (.int .i64 (0))), (.sc (.int .i64 (0))), (.sc (.int .i64 (0))), (.sc (.int .i64 (0))), (.sc (.int .i64 (0))), (.sc (.int .i64 (0))), (.sc (.string ⟨#[]⟩)), (.sl true .full 0 []), (.sl true .full 0 [])]⟩,
       ⟨none, none, .store 22 (.t 6) (.t 31)⟩])
     (.seq (.ops [⟨(some 33), none, .load (some 6) (.t 3)⟩,
       ⟨(some 34), none, .load (some 22) (.t 6)⟩,
       ⟨(some 35), none, .call (.c (.fn (.func 198) [] [])) [(.t 33), (.t 34)]⟩,
       ⟨(some 32), none, .move (.t 35)⟩,
       ⟨(some 36), none, .extract 0 (.t 32)⟩,
       ⟨(some 37), none, .extract 1 (.t 32)⟩,
       ⟨none, none, .store 6 (.t 3) (.t 36)⟩,
       ⟨(some 4), none, .move (.t 37)⟩])
     (.seq (.ops [⟨(some 38), none, .move (.t 4)⟩,
       ⟨(some 39), none, .un .not (.t 38)⟩])
     (.cond (.t 39)
      (.seq (.ops [⟨(some 40), none, .move (.t 0)⟩,
        ⟨(some 41), none, .faddr 0 (.t 6)⟩,
        ⟨(some 42), none, .load (some 2) (.t 41)⟩,
        ⟨(some 43), none, .call (.c (.fn (.func 164) [] [])) [(.t 40), (.c (.sc (.bool true))), (.t 42)]⟩])
      (.ret))
      (.skip))))))
    (.ops [⟨(some 44), none, .bin .add (.t 28) (.c (.sc (.int .i64 (1))))⟩,
      ⟨(some 28), none, .move (.t 44)⟩])))))))
  (.seq (.ops [⟨(some 45), none, .faddr 0 (.t 3)⟩,
    ⟨(some 46), none, .load none (.t 45)⟩,
    ⟨(some 47), none, .move (.t 46)⟩,
    ⟨(some 48), (some (47, true)), .faddr 3 (.t 3)⟩,
    ⟨(some 49), (some (47, true)), .load none (.t 48)⟩,
    ⟨(some 50), (some (47, true)), .bin .eql (.t 49) (.c (.sc (.int .i64 (0))))⟩,
    ⟨(some 51), none, .pick (.t 47) (.t 50) (.c (.sc (.bool false)))⟩,
    ⟨(some 52), none, .move (.t 51)⟩,
    ⟨(some 53), (some (52, false)), .faddr 3 (.t 3)⟩,
    ⟨(some 54), (some (52, false)), .load none (.t 53)⟩,
    ⟨(some 55), (some (52, false)), .bin .neq (.t 54) (.c (.sc (.int .i64 (0))))⟩,
    ⟨(some 56), (some (52, false)), .move (.t 55)⟩,
    ⟨(some 57), (some (56, true)), .load (some 6) (.t 3)⟩,
    ⟨(some 58), (some (56, true)), .call (.c (.fn (.func 199) [] [])) [(.t 57)]⟩,
    ⟨(some 59), (some (56, true)), .un .not (.t 58)⟩,
    ⟨(some 60), (some (52, false)), .pick (.t 56) (.t 59) (.c (.sc (.bool false)))⟩,
    ⟨(some 61), none, .pick (.t 52) (.c (.sc (.bool true))) (.t 60)⟩,
    ⟨(some 7), none, .move (.t 61)⟩])
  (.draw [⟨false, [0], [], ⟨(some 62), none, .move (.t 0)⟩⟩,
    ⟨false, [7], [], ⟨(some 63), none, .move (.t 7)⟩⟩,
    ⟨false, [0], [], ⟨(some 64), none, .move (.t 0)⟩⟩,
    ⟨false, [64], [], ⟨(some 65), none, .nilCheck (.t 64)⟩⟩,
    ⟨false, [65], [], ⟨(some 66), none, .faddr 0 (.t 65)⟩⟩,
    ⟨false, [66], [], ⟨(some 67), none, .faddr 3 (.t 66)⟩⟩,
    ⟨false, [67], [], ⟨(some 68), none, .load none (.t 67)⟩⟩,
    ⟨false, [0], [], ⟨(some 69), none, .move (.t 0)⟩⟩,
    ⟨false, [69], [], ⟨(some 70), none, .nilCheck (.t 69)⟩⟩,
    ⟨false, [70], [], ⟨(some 71), none, .faddr 0 (.t 70)⟩⟩,
    ⟨false, [71], [], ⟨(some 72), none, .faddr 3 (.t 71)⟩⟩,
    ⟨false, [72], [], ⟨(some 73), none, .load none (.t 72)⟩⟩,
    ⟨false, [73], [], ⟨(some 74), none, .len (.t 73)⟩⟩,
    ⟨false, [74], [], ⟨(some 75), none, .bin .sub (.t 74) (.c (.sc (.int .i64 (1))))⟩⟩,
    ⟨true, [68, 75], [], ⟨(some 76), none, .iaddrS 22 (.t 68) (.t 75)⟩⟩,
    ⟨true, [76], [], ⟨(some 77), none, .faddr 0 (.t 76)⟩⟩,
    ⟨true, [77], [], ⟨(some 78), none, .load (some 2) (.t 77)⟩⟩]
    [⟨(some 79), none, .call (.c (.fn (.func 164) [] [])) [(.t 62), (.t 63), (.t 78)]⟩]))))))),
  []⟩
theorem ok105 : EntryOk Tryz.prog 105 af105 := ⟨Tryz.f105, _, Tryz.func105, by decide, rfl, by kernel_rfl, by kernel_rfl, rfl⟩
/-- hemiola/unfold.order$1 -/
noncomputable def af109 : AF := ⟨43, .seq (.ops [⟨(some 2), none, .box (.t 0)⟩])
  (.seq (.ops [⟨(some 9), none, .load (some 6) (.t 1)⟩,
    ⟨(some 10), none, .call (.c (.fn (.func 110) [] [])) [(.t 9)]⟩,
    ⟨(some 3), none, .alloc [(.sl true .full 0 [])]⟩,
    ⟨none, none, .store 1 (.t 3) (.t 10)⟩])
  (.seq (.ops [⟨(some 11), none, .load none (.t 3)⟩,
    ⟨(some 12), none, .len (.t 11)⟩,
    ⟨(some 13), none, .move (.c (.sc (.int .i64 (0))))⟩])
  (.block 0 (.loop (.seq (.ops [⟨(some 14), none, .bin .lss (.t 13) (.t 12)⟩])
    (.seq (.cond (.t 14)
     (.skip)
     (.exit 0))
    (.seq (.block 1 (.seq (.ops [⟨(some 15), none, .iaddrS 4 (.t 11) (.t 13)⟩,
       ⟨(some 16), none, .load (some 4) (.t 15)⟩,
       ⟨(some 5), none, .alloc [(.sc (.int .i64 (0))), (.sc (.int .i64 (0))), (.sl true .full 0 []), (.sc (.int .i64 (0)))]⟩,
       ⟨none, none, .store 4 (.t 5) (.t 16)⟩])
     (.seq (.ops [⟨(some 17), none, .load (some 4) (.t 5)⟩,
       ⟨(some 18), none, .call (.c (.fn (.func 111) [] [])) [(.t 17)]⟩])
     (.block 2 (.range (.t 18) #[19, 20]
       (.seq (.ops [⟨(some 6), none, .move (.t 19)⟩])
       (.ops [⟨(some 7), none, .move (.t 20)⟩]))
       (.block 3 (.seq (.seq (.ops [⟨(some 21), none, .load none (.t 2)⟩,
          ⟨(some 22), none, .move (.t 6)⟩,
          ⟨(some 23), none, .call (.t 21) [(.t 22)]⟩,
          ⟨(some 24), none, .un .not (.t 23)⟩])
        (.cond (.t 24)
         (.ret)
         (.skip)))
        (.seq (.ops [⟨(some 25), none, .faddr 3 (.t 1)⟩,
          ⟨(some 26), none, .load none (.t 25)⟩,
          ⟨(some 27), none, .move (.t 6)⟩,
          ⟨(some 28), none, .iaddrS 22 (.t 26) (.t 27)⟩,
          ⟨(some 29), none, .faddr 15 (.t 28)⟩,
          ⟨(some 30), none, .load none (.t 29)⟩,
          ⟨(some 8), none, .move (.t 30)⟩])
        (.seq (.ops [⟨(some 31), none, .move (.t 8)⟩,
          ⟨(some 32), none, .bin .neq (.t 31) (.c (.sc (.int .i64 (0))))⟩,
          ⟨(some 33), none, .move (.t 32)⟩,
          ⟨(some 34), (some (33, true)), .move (.t 7)⟩,
          ⟨(some 35), none, .pick (.t 33) (.t 34) (.c (.sc (.bool false)))⟩])
        (.cond (.t 35)
         (.seq (.draw [⟨false, [1], [], ⟨(some 36), none, .load (some 6) (.t 1)⟩⟩,
           ⟨false, [3], [], ⟨(some 37), none, .load none (.t 3)⟩⟩,
           ⟨false, [8], [], ⟨(some 38), none, .move (.t 8)⟩⟩,
           ⟨true, [36, 37, 38], [], ⟨(some 39), none, .call (.c (.fn (.func 112) [] [])) [(.t 36), (.t 37), (.t 38)]⟩⟩,
           ⟨false, [2], [3], ⟨(some 40), none, .load none (.t 2)⟩⟩]
           [⟨(some 41), none, .call (.t 39) [(.t 40)]⟩])
         (.ret))
         (.skip))))))
       (codeAt (Tryz.f109.body.getD .skip) [1, 1, 1, 0, 0, 1, 1, 0, 0, 1, 1, 0, 0]) (codeAt (Tryz.f109.body.getD .skip) [1, 1, 1, 0, 0, 1, 1, 0, 0, 1, 1, 0, 1]))))))
    (.ops [⟨(some 42), none, .bin .add (.t 13) (.c (.sc (.int .i64 (1))))⟩,
      ⟨(some 13), none, .move (.t 42)⟩])))))))),
  []⟩
theorem ok109 : EntryOk Tryz.prog 109 af109 := ⟨Tryz.f109, _, Tryz.func109, by decide, rfl, by kernel_rfl, by kernel_rfl, rfl⟩
/-- hemiola/score.Staves -/
noncomputable def af114 : AF := ⟨20, .seq (.ops [⟨(some 1), none, .box (.t 0)⟩,
    ⟨(some 2), none, .move (.c (.sc (.int .i64 (0))))⟩])
  (.seq (.ops [⟨(some 3), none, .move (.c (.sc (.int .i64 (0))))⟩])
  (.seq (.seq (.ops [⟨(some 6), none, .faddr 2 (.t 1)⟩,
    ⟨(some 7), none, .load none (.t 6)⟩,
    ⟨(some 8), none, .len (.t 7)⟩,
    ⟨(some 9), none, .move (.c (.sc (.int .i64 (0))))⟩])
  (.block 0 (.loop (.seq (.ops [⟨(some 10), none, .bin .lss (.t 9) (.t 8)⟩])
    (.seq (.cond (.t 10)
     (.skip)
     (.exit 0))
    (.seq (.block 1 (.seq (.ops [⟨(some 11), none, .iaddrS 6 (.t 7) (.t 9)⟩,
       ⟨(some 12), none, .load (some 6) (.t 11)⟩,
       ⟨(some 5), none, .alloc [(.sc (.int .i64 (0))), (.sc (.int .i64 (0))), (.sc (.string ⟨#[]⟩)), (.sc (.int .i64 (0))), (.sc (.int .i64 (0))), (.sl true .full 0 [])]⟩,
       ⟨none, none, .store 6 (.t 5) (.t 12)⟩])
     (.ops [⟨(some 13), none, .move (.t 3)⟩,
       ⟨(some 14), none, .faddr 5 (.t 5)⟩,
       ⟨(some 15), none, .load none (.t 14)⟩,
       ⟨(some 16), none, .len (.t 15)⟩,
       ⟨(some 17), none, .bin .add (.t 13) (.t 16)⟩,
       ⟨(some 3), none, .move (.t 17)⟩])))
    (.ops [⟨(some 18), none, .bin .add (.t 9) (.c (.sc (.int .i64 (1))))⟩,
      ⟨(some 9), none, .move (.t 18)⟩])))))))
  (.seq (.ops [⟨(some 19), none, .move (.t 3)⟩,
    ⟨(some 2), none, .move (.t 19)⟩])
  (.ret)))),
  [.t 2]⟩
theorem ok114 : EntryOk Tryz.prog 114 af114 := ⟨Tryz.f114, _, Tryz.func114, by decide, rfl, by kernel_rfl, by kernel_rfl, rfl⟩
/-- slices.Values[[]hemiola/api.Note,hemiola/api.Note] -/
noncomputable def af118 : AF := ⟨4, .seq (.ops [⟨(some 1), none, .box (.t 0)⟩,
    ⟨(some 2), none, .move (.c (.sc .nilFunc))⟩])
  (.seq (.ops [⟨(some 3), none, .mkFn (.func 215) [] [(.t 1)]⟩,
    ⟨(some 2), none, .move (.t 3)⟩])
  (.ret)),
  [.t 2]⟩
theorem ok118 : EntryOk Tryz.prog 118 af118 := ⟨Tryz.f118, _, Tryz.func118, by decide, rfl, by kernel_rfl, by kernel_rfl, rfl⟩
/-- (hemiola/tempo.Stretch).until -/
noncomputable def af123 : AF := ⟨22, .seq (.ops [⟨(some 2), none, .box (.t 0)⟩,
    ⟨(some 4), none, .move (.c (.sc (.int .i64 (0))))⟩])
  (.seq (.draw [⟨false, [2], [], ⟨(some 5), none, .faddr 4 (.t 2)⟩⟩,
    ⟨false, [5], [15], ⟨(some 6), none, .load none (.t 5)⟩⟩,
    ⟨false, [2], [], ⟨(some 7), none, .faddr 2 (.t 2)⟩⟩,
    ⟨false, [7], [], ⟨(some 8), none, .load none (.t 7)⟩⟩,
    ⟨false, [2], [], ⟨(some 9), none, .faddr 3 (.t 2)⟩⟩,
    ⟨false, [9], [], ⟨(some 10), none, .load none (.t 9)⟩⟩,
    ⟨false, [2], [], ⟨(some 11), none, .faddr 1 (.t 2)⟩⟩,
    ⟨false, [11], [], ⟨(some 12), none, .load none (.t 11)⟩⟩,
    ⟨false, [2], [], ⟨(some 13), none, .faddr 0 (.t 2)⟩⟩,
    ⟨false, [13], [], ⟨(some 14), none, .load none (.t 13)⟩⟩,
    ⟨false, [12, 14], [], ⟨(some 15), none, .bin .sub (.t 12) (.t 14)⟩⟩,
    ⟨false, [1], [], ⟨(some 16), none, .move (.t 1)⟩⟩,
    ⟨false, [2], [], ⟨(some 17), none, .faddr 0 (.t 2)⟩⟩,
    ⟨false, [17], [], ⟨(some 18), none, .load none (.t 17)⟩⟩,
    ⟨false, [16, 18], [], ⟨(some 19), none, .bin .sub (.t 16) (.t 18)⟩⟩,
    ⟨true, [8, 10, 15, 19], [], ⟨(some 20), none, .call (.c (.fn (.func 216) [] [])) [(.t 8), (.t 10), (.t 15), (.t 19)]⟩⟩]
    [⟨(some 21), none, .bin .add (.t 6) (.t 20)⟩,
    ⟨(some 4), none, .move (.t 21)⟩])
  (.ret)),
  [.t 4]⟩
theorem ok123 : EntryOk Tryz.prog 123 af123 := ⟨Tryz.f123, _, Tryz.func123, by decide, rfl, by kernel_rfl, by kernel_rfl, rfl⟩
/-- hemiola/measure.ClefAt -/
noncomputable def af127 : AF := ⟨46, .seq (.ops [⟨(some 4), none, .box (.t 0)⟩,
    ⟨(some 8), none, .move (.c (.sc (.int .i64 (0))))⟩,
    ⟨(some 9), none, .move (.c (.sc (.int .i64 (0))))⟩])
  (.seq (.seq (.ops [⟨(some 13), none, .move (.t 1)⟩,
    ⟨(some 14), none, .bin .lss (.t 13) (.c (.sc (.int .i64 (0))))⟩,
    ⟨(some 15), none, .move (.t 14)⟩,
    ⟨(some 16), (some (15, false)), .move (.t 1)⟩,
    ⟨(some 17), (some (15, false)), .faddr 21 (.t 4)⟩,
    ⟨(some 18), (some (15, false)), .load none (.t 17)⟩,
    ⟨(some 19), (some (15, false)), .len (.t 18)⟩,
    ⟨(some 20), (some (15, false)), .bin .geq (.t 16) (.t 19)⟩,
    ⟨(some 21), none, .pick (.t 15) (.c (.sc (.bool true))) (.t 20)⟩])
  (.cond (.t 21)
   (.seq (.ops [⟨(some 8), none, .move (.c (.sc (.int .i64 (0))))⟩,
     ⟨(some 9), none, .move (.c (.sc (.int .i64 (2))))⟩])
   (.ret))
   (.skip)))
  (.seq (.seq (.ops [⟨(some 22), none, .move (.t 2)⟩,
    ⟨(some 23), none, .call (.c (.fn (.func 173) [] [])) [(.t 22)]⟩,
    ⟨(some 10), none, .move (.t 23)⟩])
  (.seq (.ops [⟨(some 24), none, .move (.t 10)⟩,
    ⟨(some 25), none, .bin .neq (.t 24) (.c (.sc (.int .i64 (0))))⟩])
  (.cond (.t 25)
   (.seq (.ops [⟨(some 26), none, .move (.t 10)⟩,
     ⟨(some 8), none, .move (.c (.sc (.int .i64 (0))))⟩,
     ⟨(some 9), none, .move (.t 26)⟩])
   (.ret))
   (.skip))))
  (.seq (.seq (.ops [⟨(some 27), none, .faddr 21 (.t 4)⟩,
    ⟨(some 28), none, .load none (.t 27)⟩,
    ⟨(some 29), none, .move (.t 1)⟩,
    ⟨(some 30), none, .iaddrS 2 (.t 28) (.t 29)⟩,
    ⟨(some 31), none, .faddr 0 (.t 30)⟩,
    ⟨(some 32), none, .load none (.t 31)⟩,
    ⟨(some 33), none, .len (.t 32)⟩,
    ⟨(some 34), none, .move (.c (.sc (.int .i64 (0))))⟩])
  (.block 0 (.loop (.seq (.ops [⟨(some 35), none, .bin .lss (.t 34) (.t 33)⟩])
    (.seq (.cond (.t 35)
     (.skip)
     (.exit 0))
    (.seq (.block 1 (.seq (.ops [⟨(some 36), none, .iaddrS 2 (.t 32) (.t 34)⟩,
       ⟨(some 37), none, .load (some 2) (.t 36)⟩,
       ⟨(some 12), none, .alloc [(.sc (.int .i64 (0))), (.sc (.int .i64 (0)))]⟩,
       ⟨none, none, .store 2 (.t 12) (.t 37)⟩])
     (.seq (.ops [⟨(some 38), none, .faddr 0 (.t 12)⟩,
       ⟨(some 39), none, .load none (.t 38)⟩,
       ⟨(some 40), none, .move (.t 3)⟩,
       ⟨(some 41), none, .bin .leq (.t 39) (.t 40)⟩])
     (.cond (.t 41)
      (.ops [⟨(some 42), none, .faddr 1 (.t 12)⟩,
        ⟨(some 43), none, .load none (.t 42)⟩,
        ⟨(some 2), none, .move (.t 43)⟩])
      (.skip)))))
    (.ops [⟨(some 44), none, .bin .add (.t 34) (.c (.sc (.int .i64 (1))))⟩,
      ⟨(some 34), none, .move (.t 44)⟩])))))))
  (.seq (.ops [⟨(some 45), none, .move (.t 2)⟩,
    ⟨(some 8), none, .move (.t 45)⟩,
    ⟨(some 9), none, .move (.c (.sc (.int .i64 (0))))⟩])
  (.ret))))),
  [.t 8, .t 9]⟩
theorem ok127 : EntryOk Tryz.prog 127 af127 := ⟨Tryz.f127, _, Tryz.func127, by decide, rfl, by kernel_rfl, by kernel_rfl, rfl⟩
/-- (*hemiola/tempo.Map).Micros -/
noncomputable def af132 : AF := ⟨20, .seq (.ops [⟨(some 4), none, .move (.c (.sc (.int .i64 (0))))⟩,
    ⟨(some 5), none, .move (.c (.sc (.int .i64 (0))))⟩])
  (.seq (.ops [⟨(some 9), none, .move (.t 0)⟩,
    ⟨(some 10), none, .move (.t 1)⟩,
    ⟨(some 11), none, .call (.c (.fn (.func 222) [] [])) [(.t 9), (.t 10)]⟩,
    ⟨(some 8), none, .move (.t 11)⟩,
    ⟨(some 12), none, .extract 0 (.t 8)⟩,
    ⟨(some 13), none, .extract 1 (.t 8)⟩,
    ⟨(some 6), none, .alloc [(.sc (.int .i64 (0))), (.sc (.int .i64 (0))), (.sc (.int .i64 (0))), (.sc (.int .i64 (0))), (.sc (.int .i64 (0)))]⟩,
    ⟨none, none, .store 5 (.t 6) (.t 12)⟩,
    ⟨(some 7), none, .move (.t 13)⟩])
  (.seq (.seq (.ops [⟨(some 14), none, .move (.t 7)⟩,
    ⟨(some 15), none, .bin .neq (.t 14) (.c (.sc (.int .i64 (0))))⟩])
  (.cond (.t 15)
   (.seq (.ops [⟨(some 16), none, .move (.t 7)⟩,
     ⟨(some 4), none, .move (.c (.sc (.int .i64 (0))))⟩,
     ⟨(some 5), none, .move (.t 16)⟩])
   (.ret))
   (.skip)))
  (.seq (.ops [⟨(some 17), none, .load (some 5) (.t 6)⟩,
    ⟨(some 18), none, .move (.t 1)⟩,
    ⟨(some 19), none, .call (.c (.fn (.func 123) [] [])) [(.t 17), (.t 18)]⟩,
    ⟨(some 4), none, .move (.t 19)⟩,
    ⟨(some 5), none, .move (.c (.sc (.int .i64 (0))))⟩])
  (.ret)))),
  [.t 4, .t 5]⟩
theorem ok132 : EntryOk Tryz.prog 132 af132 := ⟨Tryz.f132, _, Tryz.func132, by decide, rfl, by kernel_rfl, by kernel_rfl, rfl⟩
/-- hemiola/pitch.Diatonic -/
noncomputable def af136 : AF := ⟨16, .seq (.ops [⟨(some 1), none, .box (.t 0)⟩,
    ⟨(some 2), none, .move (.c (.sc (.int .i64 (0))))⟩,
    ⟨(some 3), none, .move (.c (.sc (.int .i64 (0))))⟩])
  (.seq (.seq (.ops [⟨(some 5), none, .load (some 3) (.t 1)⟩,
    ⟨(some 6), none, .call (.c (.fn (.func 224) [] [])) [(.t 5)]⟩,
    ⟨(some 4), none, .move (.t 6)⟩])
  (.seq (.ops [⟨(some 7), none, .move (.t 4)⟩,
    ⟨(some 8), none, .bin .neq (.t 7) (.c (.sc (.int .i64 (0))))⟩])
  (.cond (.t 8)
   (.seq (.ops [⟨(some 9), none, .move (.t 4)⟩,
     ⟨(some 2), none, .move (.c (.sc (.int .i64 (0))))⟩,
     ⟨(some 3), none, .move (.t 9)⟩])
   (.ret))
   (.skip))))
  (.seq (.ops [⟨(some 10), none, .faddr 2 (.t 1)⟩,
    ⟨(some 11), none, .load none (.t 10)⟩,
    ⟨(some 12), none, .bin .mul (.c (.sc (.int .i64 (7)))) (.t 11)⟩,
    ⟨(some 13), none, .faddr 0 (.t 1)⟩,
    ⟨(some 14), none, .load none (.t 13)⟩,
    ⟨(some 15), none, .bin .add (.t 12) (.t 14)⟩,
    ⟨(some 2), none, .move (.t 15)⟩,
    ⟨(some 3), none, .move (.c (.sc (.int .i64 (0))))⟩])
  (.ret))),
  [.t 2, .t 3]⟩
theorem ok136 : EntryOk Tryz.prog 136 af136 := ⟨Tryz.f136, _, Tryz.func136, by decide, rfl, by kernel_rfl, by kernel_rfl, rfl⟩
/-- slices.stableCmpFunc[hemiola/api.Played] -/
noncomputable def af142 : AF := ⟨63, .seq (.ops [⟨(some 6), none, .move (.c (.sc (.int .i64 (20))))⟩])
  (.seq (.ops [⟨(some 10), none, .move (.t 6)⟩,
    ⟨(some 7), none, .move (.c (.sc (.int .i64 (0))))⟩,
    ⟨(some 8), none, .move (.t 10)⟩])
  (.seq (.block 0 (.loop (.seq (.seq (.ops [⟨(some 11), none, .move (.t 8)⟩,
      ⟨(some 12), none, .move (.t 1)⟩,
      ⟨(some 13), none, .bin .leq (.t 11) (.t 12)⟩])
    (.cond (.t 13)
     (.skip)
     (.exit 0)))
    (.block 1 (.seq (.ops [⟨(some 14), none, .move (.t 0)⟩,
       ⟨(some 15), none, .move (.t 7)⟩,
       ⟨(some 16), none, .move (.t 8)⟩,
       ⟨(some 17), none, .move (.t 2)⟩,
       ⟨(some 18), none, .call (.c (.fn (.func 229) [] [])) [(.t 14), (.t 15), (.t 16), (.t 17)]⟩])
     (.seq (.ops [⟨(some 19), none, .move (.t 8)⟩,
       ⟨(some 7), none, .move (.t 19)⟩])
     (.ops [⟨(some 20), none, .move (.t 8)⟩,
       ⟨(some 21), none, .move (.t 6)⟩,
       ⟨(some 22), none, .bin .add (.t 20) (.t 21)⟩,
       ⟨(some 8), none, .move (.t 22)⟩])))))))
  (.seq (.ops [⟨(some 23), none, .move (.t 0)⟩,
    ⟨(some 24), none, .move (.t 7)⟩,
    ⟨(some 25), none, .move (.t 1)⟩,
    ⟨(some 26), none, .move (.t 2)⟩,
    ⟨(some 27), none, .call (.c (.fn (.func 229) [] [])) [(.t 23), (.t 24), (.t 25), (.t 26)]⟩])
  (.block 2 (.loop (.seq (.seq (.ops [⟨(some 28), none, .move (.t 6)⟩,
      ⟨(some 29), none, .move (.t 1)⟩,
      ⟨(some 30), none, .bin .lss (.t 28) (.t 29)⟩])
    (.cond (.t 30)
     (.skip)
     (.exit 2)))
    (.block 3 (.seq (.ops [⟨(some 31), none, .move (.t 6)⟩,
       ⟨(some 32), none, .bin .mul (.c (.sc (.int .i64 (2)))) (.t 31)⟩,
       ⟨(some 7), none, .move (.c (.sc (.int .i64 (0))))⟩,
       ⟨(some 8), none, .move (.t 32)⟩])
     (.seq (.block 4 (.loop (.seq (.seq (.ops [⟨(some 33), none, .move (.t 8)⟩,
         ⟨(some 34), none, .move (.t 1)⟩,
         ⟨(some 35), none, .bin .leq (.t 33) (.t 34)⟩])
       (.cond (.t 35)
        (.skip)
        (.exit 4)))
       (.block 5 (.seq (.ops [⟨(some 36), none, .move (.t 0)⟩,
          ⟨(some 37), none, .move (.t 7)⟩,
          ⟨(some 38), none, .move (.t 7)⟩,
          ⟨(some 39), none, .move (.t 6)⟩,
          ⟨(some 40), none, .bin .add (.t 38) (.t 39)⟩,
          ⟨(some 41), none, .move (.t 8)⟩,
          ⟨(some 42), none, .move (.t 2)⟩,
          ⟨(some 43), none, .call (.c (.fn (.func 230) [] [])) [(.t 36), (.t 37), (.t 40), (.t 41), (.t 42)]⟩])
        (.seq (.ops [⟨(some 44), none, .move (.t 8)⟩,
          ⟨(some 7), none, .move (.t 44)⟩])
        (.ops [⟨(some 45), none, .move (.t 8)⟩,
          ⟨(some 46), none, .move (.t 6)⟩,
          ⟨(some 47), none, .bin .mul (.c (.sc (.int .i64 (2)))) (.t 46)⟩,
          ⟨(some 48), none, .bin .add (.t 45) (.t 47)⟩,
          ⟨(some 8), none, .move (.t 48)⟩])))))))
     (.seq (.seq (.ops [⟨(some 49), none, .move (.t 7)⟩,
       ⟨(some 50), none, .move (.t 6)⟩,
       ⟨(some 51), none, .bin .add (.t 49) (.t 50)⟩,
       ⟨(some 9), none, .move (.t 51)⟩])
     (.seq (.ops [⟨(some 52), none, .move (.t 9)⟩,
       ⟨(some 53), none, .move (.t 1)⟩,
       ⟨(some 54), none, .bin .lss (.t 52) (.t 53)⟩])
     (.cond (.t 54)
      (.ops [⟨(some 55), none, .move (.t 0)⟩,
        ⟨(some 56), none, .move (.t 7)⟩,
        ⟨(some 57), none, .move (.t 9)⟩,
        ⟨(some 58), none, .move (.t 1)⟩,
        ⟨(some 59), none, .move (.t 2)⟩,
        ⟨(some 60), none, .call (.c (.fn (.func 230) [] [])) [(.t 55), (.t 56), (.t 57), (.t 58), (.t 59)]⟩])
      (.skip))))
     (.ops [⟨(some 61), none, .move (.t 6)⟩,
       ⟨(some 62), none, .bin .mul (.t 61) (.c (.sc (.int .i64 (2))))⟩,
       ⟨(some 6), none, .move (.t 62)⟩]))))))))))),
  []⟩
theorem ok142 : EntryOk Tryz.prog 142 af142 := ⟨Tryz.f142, _, Tryz.func142, by decide, rfl, by kernel_rfl, by kernel_rfl, rfl⟩
/-- (*hemiola/check.checker).add -/
noncomputable def af164 : AF := ⟨22, .seq (.ops [⟨(some 5), none, .box (.t 2)⟩])
  (.seq (.ops [⟨(some 6), none, .move (.t 1)⟩])
  (.cond (.t 6)
   (.draw [⟨false, [0], [], ⟨(some 7), none, .move (.t 0)⟩⟩,
     ⟨false, [0], [], ⟨(some 8), none, .move (.t 0)⟩⟩,
     ⟨false, [8], [], ⟨(some 9), none, .nilCheck (.t 8)⟩⟩,
     ⟨false, [9], [], ⟨(some 10), none, .faddr 7 (.t 9)⟩⟩,
     ⟨false, [10], [], ⟨(some 11), none, .load none (.t 10)⟩⟩,
     ⟨false, [0], [], ⟨(some 12), none, .move (.t 0)⟩⟩,
     ⟨false, [12], [], ⟨(some 13), none, .nilCheck (.t 12)⟩⟩,
     ⟨false, [13], [], ⟨(some 14), none, .faddr 6 (.t 13)⟩⟩,
     ⟨false, [14], [], ⟨(some 15), none, .load none (.t 14)⟩⟩,
     ⟨false, [5], [], ⟨(some 16), none, .load (some 2) (.t 5)⟩⟩,
     ⟨false, [15, 16], [], ⟨(some 17), none, .build [(.sc (.int .i64 (0))), (.sc (.int .i64 (0))), (.sc (.int .i64 (0)))] [((0, 1), (.t 15)), ((1, 2), (.t 16))]⟩⟩,
     ⟨false, [17], [], ⟨(some 18), none, .buildSl 3 [(.t 17)]⟩⟩,
     ⟨true, [11, 18], [], ⟨(some 19), none, .append 3 24 (.t 11) (.t 18)⟩⟩]
     [⟨(some 20), none, .nilCheck (.t 7)⟩,
     ⟨(some 21), none, .faddr 7 (.t 20)⟩,
     ⟨none, none, .store 1 (.t 21) (.t 19)⟩])
   (.skip))),
  []⟩
theorem ok164 : EntryOk Tryz.prog 164 af164 := ⟨Tryz.f164, _, Tryz.func164, by decide, rfl, by kernel_rfl, by kernel_rfl, rfl⟩
/-- hemiola/score.IDs -/
noncomputable def af168 : AF := ⟨16, .seq (.ops [⟨(some 1), none, .box (.t 0)⟩,
    ⟨(some 2), none, .move (.c (.sl true .full 0 []))⟩])
  (.seq (.ops [⟨(some 3), none, .alloc [(.sl true .full 0 [])]⟩])
  (.seq (.seq (.ops [⟨(some 6), none, .call (.c (.fn (.func 254) [] [])) [(.t 1)]⟩])
  (.block 0 (.range (.t 6) #[7, 8]
    (.ops [⟨(some 5), none, .move (.t 8)⟩])
    (.block 1 (.draw [⟨false, [3], [], ⟨(some 9), none, .load none (.t 3)⟩⟩,
       ⟨false, [5], [], ⟨(some 10), none, .move (.t 5)⟩⟩,
       ⟨false, [10], [], ⟨(some 11), none, .nilCheck (.t 10)⟩⟩,
       ⟨false, [11], [], ⟨(some 12), none, .load (some 2) (.t 11)⟩⟩,
       ⟨false, [12], [], ⟨(some 13), none, .buildSl 2 [(.t 12)]⟩⟩]
       [⟨(some 14), none, .append 2 16 (.t 9) (.t 13)⟩,
       ⟨none, none, .store 1 (.t 3) (.t 14)⟩]))
    (codeAt (Tryz.f168.body.getD .skip) [1, 1, 0, 1, 0, 0]) (codeAt (Tryz.f168.body.getD .skip) [1, 1, 0, 1, 0, 1]))))
  (.seq (.ops [⟨(some 15), none, .load none (.t 3)⟩,
    ⟨(some 2), none, .move (.t 15)⟩])
  (.ret)))),
  [.t 2]⟩
theorem ok168 : EntryOk Tryz.prog 168 af168 := ⟨Tryz.f168, _, Tryz.func168, by decide, rfl, by kernel_rfl, by kernel_rfl, rfl⟩
/-- (*hemiola/check.checker).structure$1 -/
noncomputable def af172 : AF := ⟨73, .seq (.ops [⟨(some 4), none, .box (.t 1)⟩,
    ⟨(some 5), none, .move (.c (.sc (.bool false)))⟩])
  (.seq (.ops [⟨(some 12), none, .faddr 21 (.t 4)⟩,
    ⟨(some 13), none, .load none (.t 12)⟩,
    ⟨(some 14), none, .len (.t 13)⟩,
    ⟨(some 15), none, .load none (.t 2)⟩,
    ⟨(some 16), none, .bin .neq (.t 14) (.t 15)⟩,
    ⟨(some 6), none, .move (.t 16)⟩])
  (.seq (.seq (.ops [⟨(some 17), none, .faddr 21 (.t 4)⟩,
    ⟨(some 18), none, .load none (.t 17)⟩,
    ⟨(some 19), none, .len (.t 18)⟩,
    ⟨(some 20), none, .move (.c (.sc (.int .i64 (0))))⟩])
  (.block 0 (.loop (.seq (.ops [⟨(some 21), none, .bin .lss (.t 20) (.t 19)⟩])
    (.seq (.cond (.t 21)
     (.skip)
     (.exit 0))
    (.seq (.block 1 (.seq (.ops [⟨(some 22), none, .iaddrS 2 (.t 18) (.t 20)⟩,
       ⟨(some 23), none, .load (some 2) (.t 22)⟩,
       ⟨(some 8), none, .alloc [(.sl true .full 0 []), (.sl true .full 0 [])]⟩,
       ⟨none, none, .store 2 (.t 8) (.t 23)⟩])
     (.seq (.ops [⟨(some 24), none, .faddr 1 (.t 8)⟩,
       ⟨(some 25), none, .load none (.t 24)⟩,
       ⟨(some 9), none, .move (.t 25)⟩])
     (.seq (.ops [⟨(some 26), none, .move (.t 6)⟩,
       ⟨(some 27), none, .move (.t 26)⟩,
       ⟨(some 28), (some (27, false)), .move (.t 9)⟩,
       ⟨(some 29), (some (27, false)), .len (.t 28)⟩,
       ⟨(some 30), (some (27, false)), .bin .eql (.t 29) (.c (.sc (.int .i64 (0))))⟩,
       ⟨(some 31), none, .pick (.t 27) (.c (.sc (.bool true))) (.t 30)⟩,
       ⟨(some 32), none, .move (.t 31)⟩,
       ⟨(some 33), (some (32, false)), .move (.t 9)⟩,
       ⟨(some 34), (some (32, false)), .iaddrS 2 (.t 33) (.c (.sc (.int .i64 (0))))⟩,
       ⟨(some 35), (some (32, false)), .faddr 0 (.t 34)⟩,
       ⟨(some 36), (some (32, false)), .load none (.t 35)⟩,
       ⟨(some 37), (some (32, false)), .len (.t 36)⟩,
       ⟨(some 38), (some (32, false)), .bin .eql (.t 37) (.c (.sc (.int .i64 (0))))⟩,
       ⟨(some 39), none, .pick (.t 32) (.c (.sc (.bool true))) (.t 38)⟩,
       ⟨(some 40), none, .move (.t 39)⟩,
       ⟨(some 41), (some (40, false)), .move (.t 9)⟩,
       ⟨(some 42), (some (40, false)), .move (.t 9)⟩,
       ⟨(some 43), (some (40, false)), .len (.t 42)⟩,
       ⟨(some 44), (some (40, false)), .bin .sub (.t 43) (.c (.sc (.int .i64 (1))))⟩,
       ⟨(some 45), (some (40, false)), .iaddrS 2 (.t 41) (.t 44)⟩,
       ⟨(some 46), (some (40, false)), .faddr 0 (.t 45)⟩,
       ⟨(some 47), (some (40, false)), .load none (.t 46)⟩,
       ⟨(some 48), (some (40, false)), .len (.t 47)⟩,
       ⟨(some 49), (some (40, false)), .bin .eql (.t 48) (.c (.sc (.int .i64 (0))))⟩,
       ⟨(some 50), none, .pick (.t 40) (.c (.sc (.bool true))) (.t 49)⟩,
       ⟨(some 6), none, .move (.t 50)⟩])
     (.seq (.ops [⟨(some 51), none, .move (.t 9)⟩,
       ⟨(some 52), none, .len (.t 51)⟩,
       ⟨(some 53), none, .move (.c (.sc (.int .i64 (0))))⟩])
     (.block 2 (.loop (.seq (.ops [⟨(some 54), none, .bin .lss (.t 53) (.t 52)⟩])
       (.seq (.cond (.t 54)
        (.skip)
        (.exit 2))
       (.seq (.block 3 (.seq (.ops [⟨(some 55), none, .iaddrS 2 (.t 51) (.t 53)⟩,
          ⟨(some 56), none, .load (some 2) (.t 55)⟩,
          ⟨(some 11), none, .alloc [(.sl true .full 0 []), (.sl true .full 0 [])]⟩,
          ⟨none, none, .store 2 (.t 11) (.t 56)⟩])
        (.ops [⟨(some 57), none, .move (.t 6)⟩,
          ⟨(some 58), none, .move (.t 57)⟩,
          ⟨(some 59), (some (58, false)), .faddr 0 (.t 11)⟩,
          ⟨(some 60), (some (58, false)), .load none (.t 59)⟩,
          ⟨(some 61), (some (58, false)), .len (.t 60)⟩,
          ⟨(some 62), (some (58, false)), .bin .eql (.t 61) (.c (.sc (.int .i64 (0))))⟩,
          ⟨(some 63), (some (58, false)), .move (.t 62)⟩,
          ⟨(some 64), (some (63, true)), .faddr 1 (.t 11)⟩,
          ⟨(some 65), (some (63, true)), .load none (.t 64)⟩,
          ⟨(some 66), (some (63, true)), .len (.t 65)⟩,
          ⟨(some 67), (some (63, true)), .bin .gtr (.t 66) (.c (.sc (.int .i64 (0))))⟩,
          ⟨(some 68), (some (58, false)), .pick (.t 63) (.t 67) (.c (.sc (.bool false)))⟩,
          ⟨(some 69), none, .pick (.t 58) (.c (.sc (.bool true))) (.t 68)⟩,
          ⟨(some 6), none, .move (.t 69)⟩])))
       (.ops [⟨(some 70), none, .bin .add (.t 53) (.c (.sc (.int .i64 (1))))⟩,
         ⟨(some 53), none, .move (.t 70)⟩])))))))))))
    (.ops [⟨(some 71), none, .bin .add (.t 20) (.c (.sc (.int .i64 (1))))⟩,
      ⟨(some 20), none, .move (.t 71)⟩])))))))
  (.seq (.ops [⟨(some 72), none, .move (.t 6)⟩,
    ⟨(some 5), none, .move (.t 72)⟩])
  (.ret)))),
  [.t 5]⟩
theorem ok172 : EntryOk Tryz.prog 172 af172 := ⟨Tryz.f172, _, Tryz.func172, by decide, rfl, by kernel_rfl, by kernel_rfl, rfl⟩
/-- (*hemiola/check.checker).filled -/
noncomputable def af176 : AF := ⟨7, .seq (.ops [⟨(some 3), none, .box (.t 1)⟩])
  (.ops [⟨(some 4), none, .move (.t 0)⟩,
    ⟨(some 5), none, .mkFn (.func 256) [] [(.t 3)]⟩,
    ⟨(some 6), none, .call (.c (.fn (.func 171) [] [])) [(.t 4), (.t 5)]⟩]),
  []⟩
theorem ok176 : EntryOk Tryz.prog 176 af176 := ⟨Tryz.f176, _, Tryz.func176, by decide, rfl, by kernel_rfl, by kernel_rfl, rfl⟩
/-- (*hemiola/check.checker).events$1 -/
noncomputable def af180 : AF := ⟨8, .seq (.ops [⟨(some 2), none, .box (.t 0)⟩,
    ⟨(some 3), none, .box (.t 1)⟩,
    ⟨(some 4), none, .move (.c (.sc (.bool false)))⟩])
  (.seq (.ops [⟨(some 5), none, .load (some 13) (.t 3)⟩,
    ⟨(some 6), none, .call (.c (.fn (.func 181) [] [])) [(.t 5)]⟩,
    ⟨(some 7), none, .bin .neq (.t 6) (.c (.sc (.int .i64 (0))))⟩,
    ⟨(some 4), none, .move (.t 7)⟩])
  (.ret)),
  [.t 4]⟩
theorem ok180 : EntryOk Tryz.prog 180 af180 := ⟨Tryz.f180, _, Tryz.func180, by decide, rfl, by kernel_rfl, by kernel_rfl, rfl⟩
/-- slices.ContainsFunc[[]hemiola/api.Head,hemiola/api.Head] -/
noncomputable def af184 : AF := ⟨9, .seq (.ops [⟨(some 4), none, .move (.c (.sc (.bool false)))⟩])
  (.seq (.ops [⟨(some 5), none, .move (.t 0)⟩,
    ⟨(some 6), none, .move (.t 1)⟩,
    ⟨(some 7), none, .call (.c (.fn (.func 272) [] [])) [(.t 5), (.t 6)]⟩,
    ⟨(some 8), none, .bin .geq (.t 7) (.c (.sc (.int .i64 (0))))⟩,
    ⟨(some 4), none, .move (.t 8)⟩])
  (.ret)),
  [.t 4]⟩
theorem ok184 : EntryOk Tryz.prog 184 af184 := ⟨Tryz.f184, _, Tryz.func184, by decide, rfl, by kernel_rfl, by kernel_rfl, rfl⟩
/-- hemiola/event.Ties -/
noncomputable def af189 : AF := ⟨11, .seq (.ops [⟨(some 1), none, .box (.t 0)⟩,
    ⟨(some 2), none, .move (.c (.sc (.bool false)))⟩])
  (.seq (.ops [⟨(some 3), none, .faddr 2 (.t 1)⟩,
    ⟨(some 4), none, .load none (.t 3)⟩,
    ⟨(some 5), none, .bin .eql (.t 4) (.c (.sc (.int .i64 (1))))⟩,
    ⟨(some 6), none, .move (.t 5)⟩,
    ⟨(some 7), (some (6, true)), .faddr 5 (.t 1)⟩,
    ⟨(some 8), (some (6, true)), .load none (.t 7)⟩,
    ⟨(some 9), (some (6, true)), .call (.c (.fn (.func 184) [] [])) [(.t 8), (.c (.fn (.func 274) [] []))]⟩,
    ⟨(some 10), none, .pick (.t 6) (.t 9) (.c (.sc (.bool false)))⟩,
    ⟨(some 2), none, .move (.t 10)⟩])
  (.ret)),
  [.t 2]⟩
theorem ok189 : EntryOk Tryz.prog 189 af189 := ⟨Tryz.f189, _, Tryz.func189, by decide, rfl, by kernel_rfl, by kernel_rfl, rfl⟩
/-- (*hemiola/check.checker).spans -/
noncomputable def af195 : AF := ⟨63, .seq (.ops [⟨(some 2), none, .move (.c (.sl true .full 0 []))⟩,
    ⟨(some 3), none, .move (.c (.sl true .full 0 []))⟩])
  (.seq (.ops [⟨(some 4), none, .move (.c (.sl true .full 0 []))⟩])
  (.seq (.ops [⟨(some 5), none, .move (.c (.sl true .full 0 []))⟩])
  (.seq (.seq (.ops [⟨(some 13), none, .move (.t 0)⟩,
    ⟨(some 14), none, .nilCheck (.t 13)⟩,
    ⟨(some 15), none, .faddr 0 (.t 14)⟩,
    ⟨(some 16), none, .faddr 4 (.t 15)⟩,
    ⟨(some 17), none, .load none (.t 16)⟩,
    ⟨(some 18), none, .len (.t 17)⟩,
    ⟨(some 19), none, .move (.c (.sc (.int .i64 (0))))⟩])
  (.block 0 (.loop (.seq (.ops [⟨(some 20), none, .bin .lss (.t 19) (.t 18)⟩])
    (.seq (.cond (.t 20)
     (.skip)
     (.exit 0))
    (.seq (.block 1 (.seq (.ops [⟨(some 21), none, .iaddrS 7 (.t 17) (.t 19)⟩,
       ⟨(some 22), none, .load (some 7) (.t 21)⟩,
       ⟨(some 7), none, .alloc [(.sc (.int .i64 (0))), (.sc (.int .i64 (0))), (.sc (.int .i64 (0))), (.sc (.int .i64 (0))), (.sc (.int .i64 (0))), (.sc (.int .i64 (0))), (.sc (.int .i64 (0)))]⟩,
       ⟨none, none, .store 7 (.t 7) (.t 22)⟩])
     (.seq (.ops [⟨(some 24), none, .move (.t 0)⟩,
       ⟨(some 25), none, .faddr 3 (.t 7)⟩,
       ⟨(some 26), none, .load (some 2) (.t 25)⟩,
       ⟨(some 27), none, .call (.c (.fn (.func 281) [] [])) [(.t 24), (.t 26)]⟩,
       ⟨(some 23), none, .move (.t 27)⟩,
       ⟨(some 28), none, .extract 0 (.t 23)⟩,
       ⟨(some 29), none, .extract 1 (.t 23)⟩,
       ⟨(some 8), none, .alloc [(.sc (.int .i64 (0))), (.sc (.int .i64 (0))), (.sc (.int .i64 (0))), (.sc (.int .i64 (0)))]⟩,
       ⟨none, none, .store 4 (.t 8) (.t 28)⟩,
       ⟨(some 9), none, .move (.t 29)⟩])
     (.seq (.ops [⟨(some 31), none, .move (.t 0)⟩,
       ⟨(some 32), none, .faddr 5 (.t 7)⟩,
       ⟨(some 33), none, .load (some 2) (.t 32)⟩,
       ⟨(some 34), none, .call (.c (.fn (.func 281) [] [])) [(.t 31), (.t 33)]⟩,
       ⟨(some 30), none, .move (.t 34)⟩,
       ⟨(some 35), none, .extract 0 (.t 30)⟩,
       ⟨(some 36), none, .extract 1 (.t 30)⟩,
       ⟨(some 10), none, .alloc [(.sc (.int .i64 (0))), (.sc (.int .i64 (0))), (.sc (.int .i64 (0))), (.sc (.int .i64 (0)))]⟩,
       ⟨none, none, .store 4 (.t 10) (.t 35)⟩,
       ⟨(some 11), none, .move (.t 36)⟩])
     (.seq (.ops [⟨(some 37), none, .faddr 2 (.t 7)⟩,
       ⟨(some 38), none, .load none (.t 37)⟩,
       ⟨(some 39), none, .load (some 4) (.t 8)⟩,
       ⟨(some 40), none, .load (some 4) (.t 10)⟩,
       ⟨(some 41), none, .build [(.sc (.int .i64 (0))), (.sc (.int .i64 (0))), (.sc (.int .i64 (0))), (.sc (.int .i64 (0))), (.sc (.int .i64 (0))), (.sc (.int .i64 (0))), (.sc (.int .i64 (0))), (.sc (.int .i64 (0))), (.sc (.int .i64 (0)))] [((0, 1), (.t 38)), ((1, 4), (.t 39)), ((5, 4), (.t 40))]⟩,
       ⟨(some 12), none, .alloc [(.sc (.int .i64 (0))), (.sc (.int .i64 (0))), (.sc (.int .i64 (0))), (.sc (.int .i64 (0))), (.sc (.int .i64 (0))), (.sc (.int .i64 (0))), (.sc (.int .i64 (0))), (.sc (.int .i64 (0))), (.sc (.int .i64 (0)))]⟩,
       ⟨none, none, .store 9 (.t 12) (.t 41)⟩])
     (.ops [⟨(some 42), none, .move (.t 4)⟩,
       ⟨(some 43), none, .load (some 9) (.t 12)⟩,
       ⟨(some 44), none, .buildSl 9 [(.t 43)]⟩,
       ⟨(some 45), none, .append 9 72 (.t 42) (.t 44)⟩,
       ⟨(some 46), none, .move (.t 5)⟩,
       ⟨(some 47), none, .move (.t 9)⟩,
       ⟨(some 48), none, .un .not (.t 47)⟩,
       ⟨(some 49), none, .move (.t 48)⟩,
       ⟨(some 50), (some (49, false)), .move (.t 11)⟩,
       ⟨(some 51), (some (49, false)), .un .not (.t 50)⟩,
       ⟨(some 52), none, .pick (.t 49) (.c (.sc (.bool true))) (.t 51)⟩,
       ⟨(some 53), none, .move (.t 52)⟩,
       ⟨(some 54), (some (53, false)), .load (some 9) (.t 12)⟩,
       ⟨(some 55), (some (53, false)), .call (.c (.fn (.func 282) [] [])) [(.t 54)]⟩,
       ⟨(some 56), (some (53, false)), .bin .neq (.t 55) (.c (.sc (.int .i64 (0))))⟩,
       ⟨(some 57), none, .pick (.t 53) (.c (.sc (.bool true))) (.t 56)⟩,
       ⟨(some 58), none, .buildSl 1 [(.t 57)]⟩,
       ⟨(some 59), none, .append 1 1 (.t 46) (.t 58)⟩,
       ⟨(some 4), none, .move (.t 45)⟩,
       ⟨(some 5), none, .move (.t 59)⟩]))))))
    (.ops [⟨(some 60), none, .bin .add (.t 19) (.c (.sc (.int .i64 (1))))⟩,
      ⟨(some 19), none, .move (.t 60)⟩])))))))
  (.seq (.ops [⟨(some 61), none, .move (.t 4)⟩,
    ⟨(some 62), none, .move (.t 5)⟩,
    ⟨(some 2), none, .move (.t 61)⟩,
    ⟨(some 3), none, .move (.t 62)⟩])
  (.ret))))),
  [.t 2, .t 3]⟩
theorem ok195 : EntryOk Tryz.prog 195 af195 := ⟨Tryz.f195, _, Tryz.func195, by decide, rfl, by kernel_rfl, by kernel_rfl, rfl⟩
/-- slices.ContainsFunc[[]hemiola/api.Measure,hemiola/api.Measure] -/
noncomputable def af202 : AF := ⟨9, .seq (.ops [⟨(some 4), none, .move (.c (.sc (.bool false)))⟩])
  (.seq (.ops [⟨(some 5), none, .move (.t 0)⟩,
    ⟨(some 6), none, .move (.t 1)⟩,
    ⟨(some 7), none, .call (.c (.fn (.func 290) [] [])) [(.t 5), (.t 6)]⟩,
    ⟨(some 8), none, .bin .geq (.t 7) (.c (.sc (.int .i64 (0))))⟩,
    ⟨(some 4), none, .move (.t 8)⟩])
  (.ret)),
  [.t 4]⟩
theorem ok202 : EntryOk Tryz.prog 202 af202 := ⟨Tryz.f202, _, Tryz.func202, by decide, rfl, by kernel_rfl, by kernel_rfl, rfl⟩
/-- (hemiola/unfold.group).measures$1 -/
noncomputable def af207 : AF := ⟨62, .seq (.ops [⟨(some 10), none, .faddr 3 (.t 1)⟩,
    ⟨(some 11), none, .load none (.t 10)⟩,
    ⟨(some 12), none, .move (.c (.sc (.int .i64 (0))))⟩])
  (.block 0 (.loop (.seq (.ops [⟨(some 13), none, .bin .lss (.t 12) (.t 11)⟩])
    (.seq (.cond (.t 13)
     (.skip)
     (.exit 0))
    (.seq (.block 1 (.seq (.ops [⟨(some 14), none, .move (.t 12)⟩,
       ⟨(some 3), none, .move (.t 14)⟩])
     (.seq (.ops [⟨(some 15), none, .faddr 0 (.t 1)⟩,
       ⟨(some 16), none, .load (some 2) (.t 15)⟩,
       ⟨(some 17), none, .buildSl 2 [(.t 16)]⟩,
       ⟨(some 4), none, .move (.t 17)⟩])
     (.seq (.seq (.ops [⟨(some 18), none, .faddr 2 (.t 1)⟩,
       ⟨(some 19), none, .load none (.t 18)⟩,
       ⟨(some 20), none, .len (.t 19)⟩,
       ⟨(some 21), none, .move (.c (.sc (.int .i64 (0))))⟩])
     (.block 2 (.loop (.seq (.ops [⟨(some 22), none, .bin .lss (.t 21) (.t 20)⟩])
       (.seq (.cond (.t 22)
        (.skip)
        (.exit 2))
       (.seq (.block 3 (.seq (.ops [⟨(some 23), none, .iaddrS 3 (.t 19) (.t 21)⟩,
          ⟨(some 24), none, .load (some 3) (.t 23)⟩,
          ⟨(some 6), none, .alloc [(.sc (.int .i64 (0))), (.sc (.int .i64 (0))), (.sc (.int .i64 (0)))]⟩,
          ⟨none, none, .store 3 (.t 6) (.t 24)⟩])
        (.seq (.ops [⟨(some 25), none, .faddr 2 (.t 6)⟩,
          ⟨(some 26), none, .load none (.t 25)⟩,
          ⟨(some 27), none, .move (.t 3)⟩,
          ⟨(some 28), none, .bin .shr (.t 26) (.t 27)⟩,
          ⟨(some 29), none, .bin .and (.t 28) (.c (.sc (.int .i64 (1))))⟩,
          ⟨(some 30), none, .bin .eql (.t 29) (.c (.sc (.int .i64 (1))))⟩])
        (.cond (.t 30)
         (.ops [⟨(some 31), none, .move (.t 4)⟩,
           ⟨(some 32), none, .faddr 0 (.t 6)⟩,
           ⟨(some 33), none, .load (some 2) (.t 32)⟩,
           ⟨(some 34), none, .buildSl 2 [(.t 33)]⟩,
           ⟨(some 35), none, .append 2 16 (.t 31) (.t 34)⟩,
           ⟨(some 4), none, .move (.t 35)⟩])
         (.skip)))))
       (.ops [⟨(some 36), none, .bin .add (.t 21) (.c (.sc (.int .i64 (1))))⟩,
         ⟨(some 21), none, .move (.t 36)⟩])))))))
     (.seq (.ops [⟨(some 37), none, .move (.t 4)⟩,
       ⟨(some 38), none, .len (.t 37)⟩,
       ⟨(some 39), none, .move (.c (.sc (.int .i64 (0))))⟩])
     (.block 4 (.loop (.seq (.ops [⟨(some 40), none, .bin .lss (.t 39) (.t 38)⟩])
       (.seq (.cond (.t 40)
        (.skip)
        (.exit 4))
       (.seq (.block 5 (.seq (.ops [⟨(some 41), none, .iaddrS 2 (.t 37) (.t 39)⟩,
          ⟨(some 42), none, .load (some 2) (.t 41)⟩,
          ⟨(some 8), none, .alloc [(.sc (.int .i64 (0))), (.sc (.int .i64 (0)))]⟩,
          ⟨none, none, .store 2 (.t 8) (.t 42)⟩])
        (.seq (.ops [⟨(some 43), none, .faddr 0 (.t 8)⟩,
          ⟨(some 44), none, .load none (.t 43)⟩,
          ⟨(some 9), none, .move (.t 44)⟩])
        (.block 6 (.loop (.seq (.seq (.ops [⟨(some 45), none, .move (.t 9)⟩,
            ⟨(some 46), none, .faddr 1 (.t 8)⟩,
            ⟨(some 47), none, .load none (.t 46)⟩,
            ⟨(some 48), none, .bin .lss (.t 45) (.t 47)⟩])
          (.cond (.t 48)
           (.skip)
           (.exit 6)))
          (.seq (.block 7 (.seq (.ops [⟨(some 51), none, .move (.t 0)⟩,
             ⟨(some 52), none, .move (.t 9)⟩,
             ⟨(some 53), none, .move (.t 3)⟩,
             ⟨(some 54), none, .faddr 3 (.t 1)⟩,
             ⟨(some 55), none, .load none (.t 54)⟩,
             ⟨(some 56), none, .bin .sub (.t 55) (.c (.sc (.int .i64 (1))))⟩,
             ⟨(some 57), none, .bin .eql (.t 53) (.t 56)⟩,
             ⟨(some 58), none, .call (.t 51) [(.t 52), (.t 57)]⟩,
             ⟨(some 59), none, .un .not (.t 58)⟩])
           (.cond (.t 59)
            (.ret)
            (.skip))))
          (.ops [⟨(some 49), none, .move (.t 9)⟩,
            ⟨(some 50), none, .bin .add (.t 49) (.c (.sc (.int .i64 (1))))⟩,
            ⟨(some 9), none, .move (.t 50)⟩]))))))))
       (.ops [⟨(some 60), none, .bin .add (.t 39) (.c (.sc (.int .i64 (1))))⟩,
         ⟨(some 39), none, .move (.t 60)⟩])))))))))))
    (.ops [⟨(some 61), none, .bin .add (.t 12) (.c (.sc (.int .i64 (1))))⟩,
      ⟨(some 12), none, .move (.t 61)⟩])))))),
  []⟩
theorem ok207 : EntryOk Tryz.prog 207 af207 := ⟨Tryz.f207, _, Tryz.func207, by decide, rfl, by kernel_rfl, by kernel_rfl, rfl⟩
/-- slices.SortStableFunc[[]hemiola/api.Note,hemiola/api.Note] -/
noncomputable def af214 : AF := ⟨9, .ops [⟨(some 4), none, .move (.t 0)⟩,
    ⟨(some 5), none, .move (.t 0)⟩,
    ⟨(some 6), none, .len (.t 5)⟩,
    ⟨(some 7), none, .move (.t 1)⟩,
    ⟨(some 8), none, .call (.c (.fn (.func 298) [] [])) [(.t 4), (.t 6), (.t 7)]⟩],
  []⟩
theorem ok214 : EntryOk Tryz.prog 214 af214 := ⟨Tryz.f214, _, Tryz.func214, by decide, rfl, by kernel_rfl, by kernel_rfl, rfl⟩
/-- hemiola/metre.length -/
noncomputable def af218 : AF := ⟨8, .seq (.ops [⟨(some 1), none, .box (.t 0)⟩,
    ⟨(some 2), none, .move (.c (.sc (.int .i64 (0))))⟩])
  (.seq (.draw [⟨false, [1], [], ⟨(some 3), none, .faddr 0 (.t 1)⟩⟩,
    ⟨false, [3], [3], ⟨(some 4), none, .load none (.t 3)⟩⟩,
    ⟨false, [1], [], ⟨(some 5), none, .load (some 8) (.t 1)⟩⟩,
    ⟨true, [5], [], ⟨(some 6), none, .call (.c (.fn (.func 303) [] [])) [(.t 5)]⟩⟩]
    [⟨(some 7), none, .bin .mul (.t 4) (.t 6)⟩,
    ⟨(some 2), none, .move (.t 7)⟩])
  (.ret)),
  [.t 2]⟩
theorem ok218 : EntryOk Tryz.prog 218 af218 := ⟨Tryz.f218, _, Tryz.func218, by decide, rfl, by kernel_rfl, by kernel_rfl, rfl⟩
/-- (*hemiola/tempo.Map).find -/
noncomputable def af222 : AF := ⟨44, .seq (.ops [⟨(some 2), none, .box (.t 0)⟩,
    ⟨(some 3), none, .box (.t 1)⟩,
    ⟨(some 4), none, .alloc [(.sc (.int .i64 (0))), (.sc (.int .i64 (0))), (.sc (.int .i64 (0))), (.sc (.int .i64 (0))), (.sc (.int .i64 (0)))]⟩,
    ⟨(some 5), none, .move (.c (.sc (.int .i64 (0))))⟩])
  (.seq (.block 0 (.seq (.ops [⟨(some 8), none, .load none (.t 2)⟩,
     ⟨(some 9), none, .eqN .pt false (.t 8) (.c (.sc (.pointer none)))⟩,
     ⟨(some 7), none, .move (.t 9)⟩])
   (.cond (.t 7)
    (.seq (.ops [⟨(some 10), none, .build [(.sc (.int .i64 (0))), (.sc (.int .i64 (0))), (.sc (.int .i64 (0))), (.sc (.int .i64 (0))), (.sc (.int .i64 (0)))] []⟩,
      ⟨none, none, .store 5 (.t 4) (.t 10)⟩,
      ⟨(some 5), none, .move (.c (.sc (.int .i64 (1))))⟩])
    (.ret))
    (.seq (.draw [⟨true, [2], [], ⟨(some 12), none, .load none (.t 2)⟩⟩,
      ⟨true, [12], [], ⟨(some 13), none, .nilCheck (.t 12)⟩⟩,
      ⟨true, [13], [], ⟨(some 14), none, .faddr 0 (.t 13)⟩⟩,
      ⟨true, [14], [], ⟨(some 15), none, .load none (.t 14)⟩⟩,
      ⟨true, [15], [], ⟨(some 16), none, .len (.t 15)⟩⟩,
      ⟨true, [16], [], ⟨(some 17), none, .bin .eql (.t 16) (.c (.sc (.int .i64 (0))))⟩⟩,
      ⟨true, [17], [], ⟨(some 18), none, .move (.t 17)⟩⟩,
      ⟨true, [3, 18], [], ⟨(some 19), (some (18, false)), .load none (.t 3)⟩⟩,
      ⟨true, [19, 18], [], ⟨(some 20), (some (18, false)), .bin .lss (.t 19) (.c (.sc (.int .i64 (0))))⟩⟩,
      ⟨true, [18, 20], [], ⟨(some 21), none, .pick (.t 18) (.c (.sc (.bool true))) (.t 20)⟩⟩,
      ⟨true, [21], [], ⟨(some 22), none, .move (.t 21)⟩⟩,
      ⟨false, [3, 22], [13], ⟨(some 23), (some (22, false)), .load none (.t 3)⟩⟩,
      ⟨false, [2, 22], [], ⟨(some 24), (some (22, false)), .load none (.t 2)⟩⟩,
      ⟨true, [24, 22], [], ⟨(some 25), (some (22, false)), .call (.c (.fn (.func 306) [] [])) [(.t 24)]⟩⟩]
      [⟨(some 26), (some (22, false)), .bin .gtr (.t 23) (.t 25)⟩,
      ⟨(some 27), none, .pick (.t 22) (.c (.sc (.bool true))) (.t 26)⟩,
      ⟨(some 11), none, .move (.t 27)⟩])
    (.cond (.t 11)
     (.seq (.ops [⟨(some 28), none, .build [(.sc (.int .i64 (0))), (.sc (.int .i64 (0))), (.sc (.int .i64 (0))), (.sc (.int .i64 (0))), (.sc (.int .i64 (0)))] []⟩,
       ⟨none, none, .store 5 (.t 4) (.t 28)⟩,
       ⟨(some 5), none, .move (.c (.sc (.int .i64 (2))))⟩])
     (.ret))
     (.skip))))))
  (.seq (.ops [⟨(some 29), none, .load none (.t 2)⟩,
    ⟨(some 30), none, .nilCheck (.t 29)⟩,
    ⟨(some 31), none, .faddr 0 (.t 30)⟩,
    ⟨(some 32), none, .load none (.t 31)⟩,
    ⟨(some 33), none, .len (.t 32)⟩,
    ⟨(some 34), none, .mkFn (.func 307) [] [(.t 2), (.t 3)]⟩,
    ⟨(some 35), none, .call (.c (.fn (.func 78) [] [])) [(.t 33), (.t 34)]⟩,
    ⟨(some 6), none, .move (.t 35)⟩])
  (.seq (.ops [⟨(some 36), none, .load none (.t 2)⟩,
    ⟨(some 37), none, .nilCheck (.t 36)⟩,
    ⟨(some 38), none, .faddr 0 (.t 37)⟩,
    ⟨(some 39), none, .load none (.t 38)⟩,
    ⟨(some 40), none, .move (.t 6)⟩,
    ⟨(some 41), none, .bin .sub (.t 40) (.c (.sc (.int .i64 (1))))⟩,
    ⟨(some 42), none, .iaddrS 5 (.t 39) (.t 41)⟩,
    ⟨(some 43), none, .load (some 5) (.t 42)⟩,
    ⟨none, none, .store 5 (.t 4) (.t 43)⟩,
    ⟨(some 5), none, .move (.c (.sc (.int .i64 (0))))⟩])
  (.ret)))),
  [.c 4 (some 5), .t 5]⟩
theorem ok222 : EntryOk Tryz.prog 222 af222 := ⟨Tryz.f222, _, Tryz.func222, by decide, rfl, by kernel_rfl, by kernel_rfl, rfl⟩
/-- hemiola/key.isStep -/
noncomputable def af226 : AF := ⟨9, .seq (.ops [⟨(some 2), none, .move (.c (.sc (.bool false)))⟩])
  (.seq (.ops [⟨(some 3), none, .move (.t 0)⟩,
    ⟨(some 4), none, .bin .geq (.t 3) (.c (.sc (.int .i64 (0))))⟩,
    ⟨(some 5), none, .move (.t 4)⟩,
    ⟨(some 6), (some (5, true)), .move (.t 0)⟩,
    ⟨(some 7), (some (5, true)), .bin .leq (.t 6) (.c (.sc (.int .i64 (6))))⟩,
    ⟨(some 8), none, .pick (.t 5) (.t 7) (.c (.sc (.bool false)))⟩,
    ⟨(some 2), none, .move (.t 8)⟩])
  (.ret)),
  [.t 2]⟩
theorem ok226 : EntryOk Tryz.prog 226 af226 := ⟨Tryz.f226, _, Tryz.func226, by decide, rfl, by kernel_rfl, by kernel_rfl, rfl⟩
/-- slices.insertionSortCmpFunc[hemiola/perform.place] -/
noncomputable def af231 : AF := ⟨53, .seq (.ops [⟨(some 10), none, .move (.t 1)⟩,
    ⟨(some 11), none, .bin .add (.t 10) (.c (.sc (.int .i64 (1))))⟩,
    ⟨(some 8), none, .move (.t 11)⟩])
  (.block 0 (.loop (.seq (.seq (.ops [⟨(some 12), none, .move (.t 8)⟩,
      ⟨(some 13), none, .move (.t 2)⟩,
      ⟨(some 14), none, .bin .lss (.t 12) (.t 13)⟩])
    (.cond (.t 14)
     (.skip)
     (.exit 0)))
    (.seq (.block 1 (.seq (.ops [⟨(some 17), none, .move (.t 8)⟩,
       ⟨(some 9), none, .move (.t 17)⟩])
     (.block 2 (.loop (.seq (.seq (.draw [⟨true, [9], [], ⟨(some 18), none, .move (.t 9)⟩⟩,
         ⟨true, [1], [], ⟨(some 19), none, .move (.t 1)⟩⟩,
         ⟨true, [18, 19], [], ⟨(some 20), none, .bin .gtr (.t 18) (.t 19)⟩⟩,
         ⟨true, [20], [], ⟨(some 21), none, .move (.t 20)⟩⟩,
         ⟨false, [3, 21], [], ⟨(some 22), (some (21, true)), .move (.t 3)⟩⟩,
         ⟨false, [0, 21], [], ⟨(some 23), (some (21, true)), .move (.t 0)⟩⟩,
         ⟨false, [9, 21], [], ⟨(some 24), (some (21, true)), .move (.t 9)⟩⟩,
         ⟨false, [23, 24, 21], [], ⟨(some 25), (some (21, true)), .iaddrS 18 (.t 23) (.t 24)⟩⟩,
         ⟨false, [25, 21], [], ⟨(some 26), (some (21, true)), .load (some 18) (.t 25)⟩⟩,
         ⟨false, [0, 21], [], ⟨(some 27), (some (21, true)), .move (.t 0)⟩⟩,
         ⟨false, [9, 21], [], ⟨(some 28), (some (21, true)), .move (.t 9)⟩⟩,
         ⟨false, [28, 21], [], ⟨(some 29), (some (21, true)), .bin .sub (.t 28) (.c (.sc (.int .i64 (1))))⟩⟩,
         ⟨false, [27, 29, 21], [], ⟨(some 30), (some (21, true)), .iaddrS 18 (.t 27) (.t 29)⟩⟩,
         ⟨false, [30, 21], [], ⟨(some 31), (some (21, true)), .load (some 18) (.t 30)⟩⟩]
         [⟨(some 32), (some (21, true)), .call (.t 22) [(.t 26), (.t 31)]⟩,
         ⟨(some 33), (some (21, true)), .bin .lss (.t 32) (.c (.sc (.int .i64 (0))))⟩,
         ⟨(some 34), none, .pick (.t 21) (.t 33) (.c (.sc (.bool false)))⟩])
       (.cond (.t 34)
        (.skip)
        (.exit 2)))
       (.seq (.block 3 (.draw [⟨false, [0], [], ⟨(some 37), none, .move (.t 0)⟩⟩,
          ⟨false, [9], [], ⟨(some 38), none, .move (.t 9)⟩⟩,
          ⟨false, [0], [], ⟨(some 39), none, .move (.t 0)⟩⟩,
          ⟨false, [9], [], ⟨(some 40), none, .move (.t 9)⟩⟩,
          ⟨false, [40], [], ⟨(some 41), none, .bin .sub (.t 40) (.c (.sc (.int .i64 (1))))⟩⟩,
          ⟨false, [0], [], ⟨(some 42), none, .move (.t 0)⟩⟩,
          ⟨false, [9], [], ⟨(some 43), none, .move (.t 9)⟩⟩,
          ⟨false, [43], [], ⟨(some 44), none, .bin .sub (.t 43) (.c (.sc (.int .i64 (1))))⟩⟩,
          ⟨false, [42, 44], [], ⟨(some 45), none, .iaddrS 18 (.t 42) (.t 44)⟩⟩,
          ⟨false, [45], [], ⟨(some 46), none, .load (some 18) (.t 45)⟩⟩,
          ⟨false, [0], [], ⟨(some 47), none, .move (.t 0)⟩⟩,
          ⟨false, [9], [], ⟨(some 48), none, .move (.t 9)⟩⟩,
          ⟨false, [47, 48], [], ⟨(some 49), none, .iaddrS 18 (.t 47) (.t 48)⟩⟩,
          ⟨false, [49], [], ⟨(some 50), none, .load (some 18) (.t 49)⟩⟩,
          ⟨true, [37, 38], [], ⟨(some 51), none, .iaddrS 18 (.t 37) (.t 38)⟩⟩,
          ⟨true, [51, 46], [], ⟨none, none, .store 18 (.t 51) (.t 46)⟩⟩]
          [⟨(some 52), none, .iaddrS 18 (.t 39) (.t 41)⟩,
          ⟨none, none, .store 18 (.t 52) (.t 50)⟩]))
       (.ops [⟨(some 35), none, .move (.t 9)⟩,
         ⟨(some 36), none, .bin .sub (.t 35) (.c (.sc (.int .i64 (1))))⟩,
         ⟨(some 9), none, .move (.t 36)⟩])))))))
    (.ops [⟨(some 15), none, .move (.t 8)⟩,
      ⟨(some 16), none, .bin .add (.t 15) (.c (.sc (.int .i64 (1))))⟩,
      ⟨(some 8), none, .move (.t 16)⟩]))))),
  []⟩
theorem ok231 : EntryOk Tryz.prog 231 af231 := ⟨Tryz.f231, _, Tryz.func231, by decide, rfl, by kernel_rfl, by kernel_rfl, rfl⟩
/-- hemiola/score.visit -/
noncomputable def af254 : AF := ⟨4, .seq (.ops [⟨(some 1), none, .box (.t 0)⟩,
    ⟨(some 2), none, .move (.c (.sc .nilFunc))⟩])
  (.seq (.ops [⟨(some 3), none, .mkFn (.func 322) [] [(.t 1)]⟩,
    ⟨(some 2), none, .move (.t 3)⟩])
  (.ret)),
  [.t 2]⟩
theorem ok254 : EntryOk Tryz.prog 254 af254 := ⟨Tryz.f254, _, Tryz.func254, by decide, rfl, by kernel_rfl, by kernel_rfl, rfl⟩
/-- slices.ContainsFunc[[]hemiola/api.Cell,hemiola/api.Cell] -/
noncomputable def af258 : AF := ⟨9, .seq (.ops [⟨(some 4), none, .move (.c (.sc (.bool false)))⟩])
  (.seq (.ops [⟨(some 5), none, .move (.t 0)⟩,
    ⟨(some 6), none, .move (.t 1)⟩,
    ⟨(some 7), none, .call (.c (.fn (.func 324) [] [])) [(.t 5), (.t 6)]⟩,
    ⟨(some 8), none, .bin .geq (.t 7) (.c (.sc (.int .i64 (0))))⟩,
    ⟨(some 4), none, .move (.t 8)⟩])
  (.ret)),
  [.t 4]⟩
theorem ok258 : EntryOk Tryz.prog 258 af258 := ⟨Tryz.f258, _, Tryz.func258, by decide, rfl, by kernel_rfl, by kernel_rfl, rfl⟩
/-- slices.ContainsFunc[[]hemiola/api.Event,hemiola/api.Event] -/
noncomputable def af262 : AF := ⟨9, .seq (.ops [⟨(some 4), none, .move (.c (.sc (.bool false)))⟩])
  (.seq (.ops [⟨(some 5), none, .move (.t 0)⟩,
    ⟨(some 6), none, .move (.t 1)⟩,
    ⟨(some 7), none, .call (.c (.fn (.func 326) [] [])) [(.t 5), (.t 6)]⟩,
    ⟨(some 8), none, .bin .geq (.t 7) (.c (.sc (.int .i64 (0))))⟩,
    ⟨(some 4), none, .move (.t 8)⟩])
  (.ret)),
  [.t 4]⟩
theorem ok262 : EntryOk Tryz.prog 262 af262 := ⟨Tryz.f262, _, Tryz.func262, by decide, rfl, by kernel_rfl, by kernel_rfl, rfl⟩
/-- hemiola/event.exists -/
noncomputable def af266 : AF := ⟨9, .seq (.ops [⟨(some 2), none, .move (.c (.sc (.bool false)))⟩])
  (.seq (.ops [⟨(some 3), none, .move (.t 0)⟩,
    ⟨(some 4), none, .bin .geq (.t 3) (.c (.sc (.int .i64 (1))))⟩,
    ⟨(some 5), none, .move (.t 4)⟩,
    ⟨(some 6), (some (5, true)), .move (.t 0)⟩,
    ⟨(some 7), (some (5, true)), .bin .leq (.t 6) (.c (.sc (.int .i64 (4))))⟩,
    ⟨(some 8), none, .pick (.t 5) (.t 7) (.c (.sc (.bool false)))⟩,
    ⟨(some 2), none, .move (.t 8)⟩])
  (.ret)),
  [.t 2]⟩
theorem ok266 : EntryOk Tryz.prog 266 af266 := ⟨Tryz.f266, _, Tryz.func266, by decide, rfl, by kernel_rfl, by kernel_rfl, rfl⟩
/-- hemiola/event.CheckHeads -/
noncomputable def af270 : AF := ⟨39, .seq (.ops [⟨(some 2), none, .move (.c (.sc (.int .i64 (0))))⟩])
  (.seq (.block 0 (.seq (.ops [⟨(some 10), none, .move (.t 0)⟩,
     ⟨(some 11), none, .len (.t 10)⟩,
     ⟨(some 12), none, .bin .eql (.t 11) (.c (.sc (.int .i64 (0))))⟩,
     ⟨(some 9), none, .move (.t 12)⟩])
   (.cond (.t 9)
    (.seq (.ops [⟨(some 2), none, .move (.c (.sc (.int .i64 (4))))⟩])
    (.ret))
    (.seq (.ops [⟨(some 14), none, .move (.t 0)⟩,
      ⟨(some 15), none, .len (.t 14)⟩,
      ⟨(some 16), none, .bin .gtr (.t 15) (.c (.sc (.int .i64 (10))))⟩,
      ⟨(some 13), none, .move (.t 16)⟩])
    (.cond (.t 13)
     (.seq (.ops [⟨(some 2), none, .move (.c (.sc (.int .i64 (9))))⟩])
     (.ret))
     (.skip))))))
  (.seq (.ops [⟨(some 3), none, .move (.c (.sc (.int .i64 (-1))))⟩])
  (.seq (.seq (.ops [⟨(some 17), none, .move (.t 0)⟩,
    ⟨(some 18), none, .len (.t 17)⟩,
    ⟨(some 19), none, .move (.c (.sc (.int .i64 (0))))⟩])
  (.block 1 (.loop (.seq (.ops [⟨(some 20), none, .bin .lss (.t 19) (.t 18)⟩])
    (.seq (.cond (.t 20)
     (.skip)
     (.exit 1))
    (.seq (.block 2 (.seq (.ops [⟨(some 21), none, .iaddrS 5 (.t 17) (.t 19)⟩,
       ⟨(some 22), none, .load (some 5) (.t 21)⟩,
       ⟨(some 5), none, .alloc [(.sc (.int .i64 (0))), (.sc (.int .i64 (0))), (.sc (.int .i64 (0))), (.sc (.bool false)), (.sc (.int .i64 (0)))]⟩,
       ⟨none, none, .store 5 (.t 5) (.t 22)⟩])
     (.seq (.seq (.ops [⟨(some 23), none, .load (some 5) (.t 5)⟩,
       ⟨(some 24), none, .call (.c (.fn (.func 331) [] [])) [(.t 23)]⟩,
       ⟨(some 6), none, .move (.t 24)⟩])
     (.seq (.ops [⟨(some 25), none, .move (.t 6)⟩,
       ⟨(some 26), none, .bin .neq (.t 25) (.c (.sc (.int .i64 (0))))⟩])
     (.cond (.t 26)
      (.seq (.ops [⟨(some 27), none, .move (.t 6)⟩,
        ⟨(some 2), none, .move (.t 27)⟩])
      (.ret))
      (.skip))))
     (.seq (.ops [⟨(some 29), none, .faddr 0 (.t 5)⟩,
       ⟨(some 30), none, .load (some 3) (.t 29)⟩,
       ⟨(some 31), none, .call (.c (.fn (.func 223) [] [])) [(.t 30)]⟩,
       ⟨(some 28), none, .move (.t 31)⟩,
       ⟨(some 32), none, .extract 0 (.t 28)⟩,
       ⟨(some 33), none, .extract 1 (.t 28)⟩,
       ⟨(some 7), none, .move (.t 32)⟩,
       ⟨(some 8), none, .move (.t 33)⟩])
     (.seq (.seq (.ops [⟨(some 34), none, .move (.t 7)⟩,
       ⟨(some 35), none, .move (.t 3)⟩,
       ⟨(some 36), none, .bin .leq (.t 34) (.t 35)⟩])
     (.cond (.t 36)
      (.seq (.ops [⟨(some 2), none, .move (.c (.sc (.int .i64 (25))))⟩])
      (.ret))
      (.skip)))
     (.ops [⟨(some 37), none, .move (.t 7)⟩,
       ⟨(some 3), none, .move (.t 37)⟩]))))))
    (.ops [⟨(some 38), none, .bin .add (.t 19) (.c (.sc (.int .i64 (1))))⟩,
      ⟨(some 19), none, .move (.t 38)⟩])))))))
  (.seq (.ops [⟨(some 2), none, .move (.c (.sc (.int .i64 (0))))⟩])
  (.ret))))),
  [.t 2]⟩
theorem ok270 : EntryOk Tryz.prog 270 af270 := ⟨Tryz.f270, _, Tryz.func270, by decide, rfl, by kernel_rfl, by kernel_rfl, rfl⟩
/-- hemiola/event.Ties$1 -/
noncomputable def af274 : AF := ⟨5, .seq (.ops [⟨(some 1), none, .box (.t 0)⟩,
    ⟨(some 2), none, .move (.c (.sc (.bool false)))⟩])
  (.seq (.ops [⟨(some 3), none, .faddr 3 (.t 1)⟩,
    ⟨(some 4), none, .load none (.t 3)⟩,
    ⟨(some 2), none, .move (.t 4)⟩])
  (.ret)),
  [.t 2]⟩
theorem ok274 : EntryOk Tryz.prog 274 af274 := ⟨Tryz.f274, _, Tryz.func274, by decide, rfl, by kernel_rfl, by kernel_rfl, rfl⟩
/-- slices.IndexFunc[[]hemiola/api.Measure,hemiola/api.Measure] -/
noncomputable def af290 : AF := ⟨19, .seq (.ops [⟨(some 4), none, .move (.c (.sc (.int .i64 (0))))⟩])
  (.seq (.seq (.ops [⟨(some 6), none, .move (.t 0)⟩,
    ⟨(some 7), none, .len (.t 6)⟩,
    ⟨(some 8), none, .move (.c (.sc (.int .i64 (0))))⟩])
  (.block 0 (.loop (.seq (.ops [⟨(some 9), none, .bin .lss (.t 8) (.t 7)⟩])
    (.seq (.cond (.t 9)
     (.skip)
     (.exit 0))
    (.seq (.block 1 (.seq (.ops [⟨(some 10), none, .move (.t 8)⟩,
       ⟨(some 5), none, .move (.t 10)⟩])
     (.seq (.ops [⟨(some 11), none, .move (.t 1)⟩,
       ⟨(some 12), none, .move (.t 0)⟩,
       ⟨(some 13), none, .move (.t 5)⟩,
       ⟨(some 14), none, .iaddrS 22 (.t 12) (.t 13)⟩,
       ⟨(some 15), none, .load (some 22) (.t 14)⟩,
       ⟨(some 16), none, .call (.t 11) [(.t 15)]⟩])
     (.cond (.t 16)
      (.seq (.ops [⟨(some 17), none, .move (.t 5)⟩,
        ⟨(some 4), none, .move (.t 17)⟩])
      (.ret))
      (.skip)))))
    (.ops [⟨(some 18), none, .bin .add (.t 8) (.c (.sc (.int .i64 (1))))⟩,
      ⟨(some 8), none, .move (.t 18)⟩])))))))
  (.seq (.ops [⟨(some 4), none, .move (.c (.sc (.int .i64 (-1))))⟩])
  (.ret))),
  [.t 4]⟩
theorem ok290 : EntryOk Tryz.prog 290 af290 := ⟨Tryz.f290, _, Tryz.func290, by decide, rfl, by kernel_rfl, by kernel_rfl, rfl⟩
/-- hemiola/tempo.mixed -/
noncomputable def af299 : AF := ⟨46, .seq (.ops [⟨(some 8), none, .move (.c (.sc (.int .u64 (0))))⟩,
    ⟨(some 9), none, .move (.c (.sc (.int .u64 (0))))⟩])
  (.seq (.ops [⟨(some 16), none, .move (.t 0)⟩,
    ⟨(some 17), none, .convI .u64 (.t 16)⟩,
    ⟨(some 18), none, .move (.t 1)⟩,
    ⟨(some 19), none, .convI .u64 (.t 18)⟩,
    ⟨(some 20), none, .call (.c (.fn (.func 300) [] [])) [(.t 17), (.t 19)]⟩,
    ⟨(some 15), none, .move (.t 20)⟩,
    ⟨(some 21), none, .extract 0 (.t 15)⟩,
    ⟨(some 22), none, .extract 1 (.t 15)⟩,
    ⟨(some 10), none, .move (.t 21)⟩,
    ⟨(some 11), none, .move (.t 22)⟩])
  (.seq (.ops [⟨(some 24), none, .move (.t 2)⟩,
    ⟨(some 25), none, .convI .u64 (.t 24)⟩,
    ⟨(some 26), none, .move (.t 3)⟩,
    ⟨(some 27), none, .convI .u64 (.t 26)⟩,
    ⟨(some 28), none, .call (.c (.fn (.func 300) [] [])) [(.t 25), (.t 27)]⟩,
    ⟨(some 23), none, .move (.t 28)⟩,
    ⟨(some 29), none, .extract 0 (.t 23)⟩,
    ⟨(some 30), none, .extract 1 (.t 23)⟩,
    ⟨(some 12), none, .move (.t 29)⟩,
    ⟨(some 13), none, .move (.t 30)⟩])
  (.seq (.ops [⟨(some 32), none, .move (.t 11)⟩,
    ⟨(some 33), none, .move (.t 13)⟩,
    ⟨(some 34), none, .call (.c (.fn (.func 346) [] [])) [(.t 32), (.t 33), (.c (.sc (.int .u64 (0))))]⟩,
    ⟨(some 31), none, .move (.t 34)⟩,
    ⟨(some 35), none, .extract 0 (.t 31)⟩,
    ⟨(some 36), none, .extract 1 (.t 31)⟩,
    ⟨(some 9), none, .move (.t 35)⟩,
    ⟨(some 14), none, .move (.t 36)⟩])
  (.seq (.ops [⟨(some 38), none, .move (.t 10)⟩,
    ⟨(some 39), none, .move (.t 12)⟩,
    ⟨(some 40), none, .move (.t 14)⟩,
    ⟨(some 41), none, .call (.c (.fn (.func 346) [] [])) [(.t 38), (.t 39), (.t 40)]⟩,
    ⟨(some 37), none, .move (.t 41)⟩,
    ⟨(some 42), none, .extract 0 (.t 37)⟩,
    ⟨(some 43), none, .extract 1 (.t 37)⟩,
    ⟨(some 8), none, .move (.t 42)⟩])
  (.seq (.ops [⟨(some 44), none, .move (.t 8)⟩,
    ⟨(some 45), none, .move (.t 9)⟩,
    ⟨(some 8), none, .move (.t 44)⟩,
    ⟨(some 9), none, .move (.t 45)⟩])
  (.ret)))))),
  [.t 8, .t 9]⟩
theorem ok299 : EntryOk Tryz.prog 299 af299 := ⟨Tryz.f299, _, Tryz.func299, by decide, rfl, by kernel_rfl, by kernel_rfl, rfl⟩
/-- hemiola/metre.unit -/
noncomputable def af303 : AF := ⟨6, .seq (.ops [⟨(some 1), none, .box (.t 0)⟩,
    ⟨(some 2), none, .move (.c (.sc (.int .i64 (0))))⟩])
  (.seq (.ops [⟨(some 3), none, .faddr 1 (.t 1)⟩,
    ⟨(some 4), none, .load none (.t 3)⟩,
    ⟨(some 5), none, .bin .quo (.c (.sc (.int .i64 (1935360)))) (.t 4)⟩,
    ⟨(some 2), none, .move (.t 5)⟩])
  (.ret)),
  [.t 2]⟩
theorem ok303 : EntryOk Tryz.prog 303 af303 := ⟨Tryz.f303, _, Tryz.func303, by decide, rfl, by kernel_rfl, by kernel_rfl, rfl⟩
/-- (*hemiola/tempo.Map).find$1 -/
noncomputable def af307 : AF := ⟨15, .seq (.ops [⟨(some 4), none, .move (.c (.sc (.bool false)))⟩])
  (.seq (.draw [⟨false, [1], [], ⟨(some 5), none, .load none (.t 1)⟩⟩,
    ⟨false, [5], [], ⟨(some 6), none, .nilCheck (.t 5)⟩⟩,
    ⟨false, [6], [], ⟨(some 7), none, .faddr 0 (.t 6)⟩⟩,
    ⟨false, [7], [], ⟨(some 8), none, .load none (.t 7)⟩⟩,
    ⟨false, [0], [], ⟨(some 9), none, .move (.t 0)⟩⟩,
    ⟨false, [8, 9], [], ⟨(some 10), none, .iaddrS 5 (.t 8) (.t 9)⟩⟩,
    ⟨false, [10], [], ⟨(some 11), none, .faddr 0 (.t 10)⟩⟩,
    ⟨false, [11], [], ⟨(some 12), none, .load none (.t 11)⟩⟩,
    ⟨false, [2], [], ⟨(some 13), none, .load none (.t 2)⟩⟩]
    [⟨(some 14), none, .bin .gtr (.t 12) (.t 13)⟩,
    ⟨(some 4), none, .move (.t 14)⟩])
  (.ret)),
  [.t 4]⟩
theorem ok307 : EntryOk Tryz.prog 307 af307 := ⟨Tryz.f307, _, Tryz.func307, by decide, rfl, by kernel_rfl, by kernel_rfl, rfl⟩
/-- hemiola/score.visit$1 -/
noncomputable def af322 : AF := ⟨183, .seq (.ops [⟨(some 3), none, .move (.c (.sc (.int .i64 (0))))⟩])
  (.seq (.seq (.ops [⟨(some 11), none, .load none (.t 1)⟩,
    ⟨(some 12), none, .nilCheck (.t 11)⟩,
    ⟨(some 13), none, .faddr 2 (.t 12)⟩,
    ⟨(some 14), none, .load none (.t 13)⟩,
    ⟨(some 15), none, .len (.t 14)⟩,
    ⟨(some 16), none, .move (.c (.sc (.int .i64 (0))))⟩])
  (.block 0 (.loop (.seq (.ops [⟨(some 17), none, .bin .lss (.t 16) (.t 15)⟩])
    (.seq (.cond (.t 17)
     (.skip)
     (.exit 0))
    (.seq (.block 1 (.seq (.ops [⟨(some 18), none, .move (.t 16)⟩,
       ⟨(some 4), none, .move (.t 18)⟩])
     (.seq (.seq (.ops [⟨(some 19), none, .move (.t 0)⟩,
       ⟨(some 20), none, .move (.t 4)⟩,
       ⟨(some 21), none, .build [(.sc (.int .i64 (0))), (.sc (.int .i64 (0))), (.sc (.int .i64 (0))), (.sc (.int .i64 (0))), (.sc (.int .i64 (0))), (.sc (.int .i64 (0))), (.sc (.int .i64 (0)))] [((0, 1), (.c (.sc (.int .i64 (1))))), ((1, 1), (.t 20))]⟩,
       ⟨(some 22), none, .load none (.t 1)⟩,
       ⟨(some 23), none, .nilCheck (.t 22)⟩,
       ⟨(some 24), none, .faddr 2 (.t 23)⟩,
       ⟨(some 25), none, .load none (.t 24)⟩,
       ⟨(some 26), none, .move (.t 4)⟩,
       ⟨(some 27), none, .iaddrS 6 (.t 25) (.t 26)⟩,
       ⟨(some 28), none, .faddr 0 (.t 27)⟩,
       ⟨(some 29), none, .call (.t 19) [(.t 21), (.t 28)]⟩,
       ⟨(some 30), none, .un .not (.t 29)⟩])
     (.cond (.t 30)
      (.ret)
      (.skip)))
     (.seq (.ops [⟨(some 31), none, .load none (.t 1)⟩,
       ⟨(some 32), none, .nilCheck (.t 31)⟩,
       ⟨(some 33), none, .faddr 2 (.t 32)⟩,
       ⟨(some 34), none, .load none (.t 33)⟩,
       ⟨(some 35), none, .move (.t 4)⟩,
       ⟨(some 36), none, .iaddrS 6 (.t 34) (.t 35)⟩,
       ⟨(some 37), none, .faddr 5 (.t 36)⟩,
       ⟨(some 38), none, .load none (.t 37)⟩,
       ⟨(some 39), none, .len (.t 38)⟩,
       ⟨(some 40), none, .move (.c (.sc (.int .i64 (0))))⟩])
     (.block 2 (.loop (.seq (.ops [⟨(some 41), none, .bin .lss (.t 40) (.t 39)⟩])
       (.seq (.cond (.t 41)
        (.skip)
        (.exit 2))
       (.seq (.block 3 (.seq (.ops [⟨(some 42), none, .move (.t 40)⟩,
          ⟨(some 5), none, .move (.t 42)⟩])
        (.seq (.seq (.ops [⟨(some 43), none, .move (.t 0)⟩,
          ⟨(some 44), none, .move (.t 3)⟩,
          ⟨(some 45), none, .build [(.sc (.int .i64 (0))), (.sc (.int .i64 (0))), (.sc (.int .i64 (0))), (.sc (.int .i64 (0))), (.sc (.int .i64 (0))), (.sc (.int .i64 (0))), (.sc (.int .i64 (0)))] [((0, 1), (.c (.sc (.int .i64 (2))))), ((2, 1), (.t 44))]⟩,
          ⟨(some 46), none, .load none (.t 1)⟩,
          ⟨(some 47), none, .nilCheck (.t 46)⟩,
          ⟨(some 48), none, .faddr 2 (.t 47)⟩,
          ⟨(some 49), none, .load none (.t 48)⟩,
          ⟨(some 50), none, .move (.t 4)⟩,
          ⟨(some 51), none, .iaddrS 6 (.t 49) (.t 50)⟩,
          ⟨(some 52), none, .faddr 5 (.t 51)⟩,
          ⟨(some 53), none, .load none (.t 52)⟩,
          ⟨(some 54), none, .move (.t 5)⟩,
          ⟨(some 55), none, .iaddrS 3 (.t 53) (.t 54)⟩,
          ⟨(some 56), none, .faddr 0 (.t 55)⟩,
          ⟨(some 57), none, .call (.t 43) [(.t 45), (.t 56)]⟩,
          ⟨(some 58), none, .un .not (.t 57)⟩])
        (.cond (.t 58)
         (.ret)
         (.skip)))
        (.ops [⟨(some 59), none, .move (.t 3)⟩,
          ⟨(some 60), none, .bin .add (.t 59) (.c (.sc (.int .i64 (1))))⟩,
          ⟨(some 3), none, .move (.t 60)⟩]))))
       (.ops [⟨(some 61), none, .bin .add (.t 40) (.c (.sc (.int .i64 (1))))⟩,
         ⟨(some 40), none, .move (.t 61)⟩]))))))))))
    (.ops [⟨(some 62), none, .bin .add (.t 16) (.c (.sc (.int .i64 (1))))⟩,
      ⟨(some 16), none, .move (.t 62)⟩])))))))
  (.seq (.seq (.ops [⟨(some 63), none, .load none (.t 1)⟩,
    ⟨(some 64), none, .nilCheck (.t 63)⟩,
    ⟨(some 65), none, .faddr 3 (.t 64)⟩,
    ⟨(some 66), none, .load none (.t 65)⟩,
    ⟨(some 67), none, .len (.t 66)⟩,
    ⟨(some 68), none, .move (.c (.sc (.int .i64 (0))))⟩])
  (.block 4 (.loop (.seq (.ops [⟨(some 69), none, .bin .lss (.t 68) (.t 67)⟩])
    (.seq (.cond (.t 69)
     (.skip)
     (.exit 4))
    (.seq (.block 5 (.seq (.ops [⟨(some 70), none, .move (.t 68)⟩,
       ⟨(some 6), none, .move (.t 70)⟩])
     (.seq (.seq (.ops [⟨(some 71), none, .move (.t 0)⟩,
       ⟨(some 72), none, .move (.t 6)⟩,
       ⟨(some 73), none, .build [(.sc (.int .i64 (0))), (.sc (.int .i64 (0))), (.sc (.int .i64 (0))), (.sc (.int .i64 (0))), (.sc (.int .i64 (0))), (.sc (.int .i64 (0))), (.sc (.int .i64 (0)))] [((0, 1), (.c (.sc (.int .i64 (3))))), ((3, 1), (.t 72))]⟩,
       ⟨(some 74), none, .load none (.t 1)⟩,
       ⟨(some 75), none, .nilCheck (.t 74)⟩,
       ⟨(some 76), none, .faddr 3 (.t 75)⟩,
       ⟨(some 77), none, .load none (.t 76)⟩,
       ⟨(some 78), none, .move (.t 6)⟩,
       ⟨(some 79), none, .iaddrS 22 (.t 77) (.t 78)⟩,
       ⟨(some 80), none, .faddr 0 (.t 79)⟩,
       ⟨(some 81), none, .call (.t 71) [(.t 73), (.t 80)]⟩,
       ⟨(some 82), none, .un .not (.t 81)⟩])
     (.cond (.t 82)
      (.ret)
      (.skip)))
     (.seq (.ops [⟨(some 83), none, .load none (.t 1)⟩,
       ⟨(some 84), none, .nilCheck (.t 83)⟩,
       ⟨(some 85), none, .faddr 3 (.t 84)⟩,
       ⟨(some 86), none, .load none (.t 85)⟩,
       ⟨(some 87), none, .move (.t 6)⟩,
       ⟨(some 88), none, .iaddrS 22 (.t 86) (.t 87)⟩,
       ⟨(some 89), none, .faddr 21 (.t 88)⟩,
       ⟨(some 90), none, .load none (.t 89)⟩,
       ⟨(some 91), none, .len (.t 90)⟩,
       ⟨(some 92), none, .move (.c (.sc (.int .i64 (0))))⟩])
     (.block 6 (.loop (.seq (.ops [⟨(some 93), none, .bin .lss (.t 92) (.t 91)⟩])
       (.seq (.cond (.t 93)
        (.skip)
        (.exit 6))
       (.seq (.block 7 (.seq (.ops [⟨(some 94), none, .move (.t 92)⟩,
          ⟨(some 7), none, .move (.t 94)⟩])
        (.seq (.ops [⟨(some 95), none, .load none (.t 1)⟩,
          ⟨(some 96), none, .nilCheck (.t 95)⟩,
          ⟨(some 97), none, .faddr 3 (.t 96)⟩,
          ⟨(some 98), none, .load none (.t 97)⟩,
          ⟨(some 99), none, .move (.t 6)⟩,
          ⟨(some 100), none, .iaddrS 22 (.t 98) (.t 99)⟩,
          ⟨(some 101), none, .faddr 21 (.t 100)⟩,
          ⟨(some 102), none, .load none (.t 101)⟩,
          ⟨(some 103), none, .move (.t 7)⟩,
          ⟨(some 104), none, .iaddrS 2 (.t 102) (.t 103)⟩,
          ⟨(some 105), none, .faddr 1 (.t 104)⟩,
          ⟨(some 106), none, .load none (.t 105)⟩,
          ⟨(some 107), none, .len (.t 106)⟩,
          ⟨(some 108), none, .move (.c (.sc (.int .i64 (0))))⟩])
        (.block 8 (.loop (.seq (.ops [⟨(some 109), none, .bin .lss (.t 108) (.t 107)⟩])
          (.seq (.cond (.t 109)
           (.skip)
           (.exit 8))
          (.seq (.block 9 (.seq (.ops [⟨(some 110), none, .move (.t 108)⟩,
             ⟨(some 8), none, .move (.t 110)⟩])
           (.seq (.ops [⟨(some 111), none, .load none (.t 1)⟩,
             ⟨(some 112), none, .nilCheck (.t 111)⟩,
             ⟨(some 113), none, .faddr 3 (.t 112)⟩,
             ⟨(some 114), none, .load none (.t 113)⟩,
             ⟨(some 115), none, .move (.t 6)⟩,
             ⟨(some 116), none, .iaddrS 22 (.t 114) (.t 115)⟩,
             ⟨(some 117), none, .faddr 21 (.t 116)⟩,
             ⟨(some 118), none, .load none (.t 117)⟩,
             ⟨(some 119), none, .move (.t 7)⟩,
             ⟨(some 120), none, .iaddrS 2 (.t 118) (.t 119)⟩,
             ⟨(some 121), none, .faddr 1 (.t 120)⟩,
             ⟨(some 122), none, .load none (.t 121)⟩,
             ⟨(some 123), none, .move (.t 8)⟩,
             ⟨(some 124), none, .iaddrS 2 (.t 122) (.t 123)⟩,
             ⟨(some 125), none, .faddr 0 (.t 124)⟩,
             ⟨(some 126), none, .load none (.t 125)⟩,
             ⟨(some 127), none, .len (.t 126)⟩,
             ⟨(some 128), none, .move (.c (.sc (.int .i64 (0))))⟩])
           (.block 10 (.loop (.seq (.ops [⟨(some 129), none, .bin .lss (.t 128) (.t 127)⟩])
             (.seq (.cond (.t 129)
              (.skip)
              (.exit 10))
             (.seq (.block 11 (.seq (.ops [⟨(some 130), none, .move (.t 128)⟩,
                ⟨(some 9), none, .move (.t 130)⟩])
              (.seq (.ops [⟨(some 131), none, .move (.t 0)⟩,
                ⟨(some 132), none, .move (.t 6)⟩,
                ⟨(some 133), none, .move (.t 7)⟩,
                ⟨(some 134), none, .move (.t 8)⟩,
                ⟨(some 135), none, .move (.t 9)⟩,
                ⟨(some 136), none, .build [(.sc (.int .i64 (0))), (.sc (.int .i64 (0))), (.sc (.int .i64 (0))), (.sc (.int .i64 (0))), (.sc (.int .i64 (0))), (.sc (.int .i64 (0))), (.sc (.int .i64 (0)))] [((0, 1), (.c (.sc (.int .i64 (4))))), ((3, 1), (.t 132)), ((2, 1), (.t 133)), ((4, 1), (.t 134)), ((5, 1), (.t 135))]⟩,
                ⟨(some 137), none, .load none (.t 1)⟩,
                ⟨(some 138), none, .nilCheck (.t 137)⟩,
                ⟨(some 139), none, .faddr 3 (.t 138)⟩,
                ⟨(some 140), none, .load none (.t 139)⟩,
                ⟨(some 141), none, .move (.t 6)⟩,
                ⟨(some 142), none, .iaddrS 22 (.t 140) (.t 141)⟩,
                ⟨(some 143), none, .faddr 21 (.t 142)⟩,
                ⟨(some 144), none, .load none (.t 143)⟩,
                ⟨(some 145), none, .move (.t 7)⟩,
                ⟨(some 146), none, .iaddrS 2 (.t 144) (.t 145)⟩,
                ⟨(some 147), none, .faddr 1 (.t 146)⟩,
                ⟨(some 148), none, .load none (.t 147)⟩,
                ⟨(some 149), none, .move (.t 8)⟩,
                ⟨(some 150), none, .iaddrS 2 (.t 148) (.t 149)⟩,
                ⟨(some 151), none, .faddr 0 (.t 150)⟩,
                ⟨(some 152), none, .load none (.t 151)⟩,
                ⟨(some 153), none, .move (.t 9)⟩,
                ⟨(some 154), none, .iaddrS 13 (.t 152) (.t 153)⟩,
                ⟨(some 155), none, .faddr 0 (.t 154)⟩,
                ⟨(some 156), none, .call (.t 131) [(.t 136), (.t 155)]⟩,
                ⟨(some 157), none, .un .not (.t 156)⟩])
              (.cond (.t 157)
               (.ret)
               (.skip)))))
             (.ops [⟨(some 158), none, .bin .add (.t 128) (.c (.sc (.int .i64 (1))))⟩,
               ⟨(some 128), none, .move (.t 158)⟩])))))))))
          (.ops [⟨(some 159), none, .bin .add (.t 108) (.c (.sc (.int .i64 (1))))⟩,
            ⟨(some 108), none, .move (.t 159)⟩])))))))))
       (.ops [⟨(some 160), none, .bin .add (.t 92) (.c (.sc (.int .i64 (1))))⟩,
         ⟨(some 92), none, .move (.t 160)⟩]))))))))))
    (.ops [⟨(some 161), none, .bin .add (.t 68) (.c (.sc (.int .i64 (1))))⟩,
      ⟨(some 68), none, .move (.t 161)⟩])))))))
  (.seq (.ops [⟨(some 162), none, .load none (.t 1)⟩,
    ⟨(some 163), none, .nilCheck (.t 162)⟩,
    ⟨(some 164), none, .faddr 4 (.t 163)⟩,
    ⟨(some 165), none, .load none (.t 164)⟩,
    ⟨(some 166), none, .len (.t 165)⟩,
    ⟨(some 167), none, .move (.c (.sc (.int .i64 (0))))⟩])
  (.block 12 (.loop (.seq (.ops [⟨(some 168), none, .bin .lss (.t 167) (.t 166)⟩])
    (.seq (.cond (.t 168)
     (.skip)
     (.exit 12))
    (.seq (.block 13 (.seq (.ops [⟨(some 169), none, .move (.t 167)⟩,
       ⟨(some 10), none, .move (.t 169)⟩])
     (.seq (.ops [⟨(some 170), none, .move (.t 0)⟩,
       ⟨(some 171), none, .move (.t 10)⟩,
       ⟨(some 172), none, .build [(.sc (.int .i64 (0))), (.sc (.int .i64 (0))), (.sc (.int .i64 (0))), (.sc (.int .i64 (0))), (.sc (.int .i64 (0))), (.sc (.int .i64 (0))), (.sc (.int .i64 (0)))] [((0, 1), (.c (.sc (.int .i64 (5))))), ((6, 1), (.t 171))]⟩,
       ⟨(some 173), none, .load none (.t 1)⟩,
       ⟨(some 174), none, .nilCheck (.t 173)⟩,
       ⟨(some 175), none, .faddr 4 (.t 174)⟩,
       ⟨(some 176), none, .load none (.t 175)⟩,
       ⟨(some 177), none, .move (.t 10)⟩,
       ⟨(some 178), none, .iaddrS 7 (.t 176) (.t 177)⟩,
       ⟨(some 179), none, .faddr 0 (.t 178)⟩,
       ⟨(some 180), none, .call (.t 170) [(.t 172), (.t 179)]⟩,
       ⟨(some 181), none, .un .not (.t 180)⟩])
     (.cond (.t 181)
      (.ret)
      (.skip)))))
    (.ops [⟨(some 182), none, .bin .add (.t 167) (.c (.sc (.int .i64 (1))))⟩,
      ⟨(some 167), none, .move (.t 182)⟩]))))))))),
  []⟩
theorem ok322 : EntryOk Tryz.prog 322 af322 := ⟨Tryz.f322, _, Tryz.func322, by decide, rfl, by kernel_rfl, by kernel_rfl, rfl⟩
/-- slices.IndexFunc[[]hemiola/api.Event,hemiola/api.Event] -/
noncomputable def af326 : AF := ⟨19, .seq (.ops [⟨(some 4), none, .move (.c (.sc (.int .i64 (0))))⟩])
  (.seq (.seq (.ops [⟨(some 6), none, .move (.t 0)⟩,
    ⟨(some 7), none, .len (.t 6)⟩,
    ⟨(some 8), none, .move (.c (.sc (.int .i64 (0))))⟩])
  (.block 0 (.loop (.seq (.ops [⟨(some 9), none, .bin .lss (.t 8) (.t 7)⟩])
    (.seq (.cond (.t 9)
     (.skip)
     (.exit 0))
    (.seq (.block 1 (.seq (.ops [⟨(some 10), none, .move (.t 8)⟩,
       ⟨(some 5), none, .move (.t 10)⟩])
     (.seq (.ops [⟨(some 11), none, .move (.t 1)⟩,
       ⟨(some 12), none, .move (.t 0)⟩,
       ⟨(some 13), none, .move (.t 5)⟩,
       ⟨(some 14), none, .iaddrS 13 (.t 12) (.t 13)⟩,
       ⟨(some 15), none, .load (some 13) (.t 14)⟩,
       ⟨(some 16), none, .call (.t 11) [(.t 15)]⟩])
     (.cond (.t 16)
      (.seq (.ops [⟨(some 17), none, .move (.t 5)⟩,
        ⟨(some 4), none, .move (.t 17)⟩])
      (.ret))
      (.skip)))))
    (.ops [⟨(some 18), none, .bin .add (.t 8) (.c (.sc (.int .i64 (1))))⟩,
      ⟨(some 8), none, .move (.t 18)⟩])))))))
  (.seq (.ops [⟨(some 4), none, .move (.c (.sc (.int .i64 (-1))))⟩])
  (.ret))),
  [.t 4]⟩
theorem ok326 : EntryOk Tryz.prog 326 af326 := ⟨Tryz.f326, _, Tryz.func326, by decide, rfl, by kernel_rfl, by kernel_rfl, rfl⟩
/-- hemiola/event.well -/
noncomputable def af331 : AF := ⟨17, .seq (.ops [⟨(some 1), none, .box (.t 0)⟩,
    ⟨(some 2), none, .move (.c (.sc (.int .i64 (0))))⟩])
  (.seq (.ops [⟨(some 6), none, .faddr 0 (.t 1)⟩,
    ⟨(some 7), none, .load (some 3) (.t 6)⟩,
    ⟨(some 8), none, .call (.c (.fn (.func 223) [] [])) [(.t 7)]⟩,
    ⟨(some 5), none, .move (.t 8)⟩,
    ⟨(some 9), none, .extract 0 (.t 5)⟩,
    ⟨(some 10), none, .extract 1 (.t 5)⟩,
    ⟨(some 3), none, .move (.t 9)⟩,
    ⟨(some 4), none, .move (.t 10)⟩])
  (.seq (.ops [⟨(some 11), none, .move (.t 4)⟩,
    ⟨(some 12), none, .faddr 4 (.t 1)⟩,
    ⟨(some 13), none, .load none (.t 12)⟩,
    ⟨(some 14), none, .call (.c (.fn (.func 265) [] [])) [(.t 13), (.c (.sc (.int .i64 (2))))]⟩,
    ⟨(some 15), none, .buildSl 1 [(.t 11), (.t 14)]⟩,
    ⟨(some 16), none, .call (.c (.fn (.func 264) [] [])) [(.t 15)]⟩,
    ⟨(some 2), none, .move (.t 16)⟩])
  (.ret))),
  [.t 2]⟩
theorem ok331 : EntryOk Tryz.prog 331 af331 := ⟨Tryz.f331, _, Tryz.func331, by decide, rfl, by kernel_rfl, by kernel_rfl, rfl⟩
/-- hemiola/tuplet.Units -/
noncomputable def af350 : AF := ⟨44, .seq (.ops [⟨(some 4), none, .move (.c (.sl true .full 0 []))⟩,
    ⟨(some 5), none, .move (.c (.sc (.int .i64 (0))))⟩])
  (.seq (.seq (.ops [⟨(some 13), none, .move (.t 0)⟩,
    ⟨(some 14), none, .move (.t 1)⟩,
    ⟨(some 15), none, .call (.c (.fn (.func 349) [] [])) [(.t 13), (.t 14)]⟩,
    ⟨(some 12), none, .move (.t 15)⟩,
    ⟨(some 16), none, .extract 0 (.t 12)⟩,
    ⟨(some 17), none, .extract 1 (.t 12)⟩,
    ⟨(some 6), none, .move (.t 16)⟩,
    ⟨(some 7), none, .move (.t 17)⟩])
  (.seq (.ops [⟨(some 18), none, .move (.t 7)⟩,
    ⟨(some 19), none, .bin .neq (.t 18) (.c (.sc (.int .i64 (0))))⟩])
  (.cond (.t 19)
   (.seq (.ops [⟨(some 20), none, .move (.t 7)⟩,
     ⟨(some 4), none, .move (.c (.sl true .full 0 []))⟩,
     ⟨(some 5), none, .move (.t 20)⟩])
   (.ret))
   (.skip))))
  (.seq (.ops [⟨(some 21), none, .move (.t 0)⟩,
    ⟨(some 22), none, .len (.t 21)⟩,
    ⟨(some 23), none, .mkSl 1 8 [(.sc (.int .i64 (0)))] (.c (.sc (.int .i64 (0)))) (.t 22)⟩,
    ⟨(some 8), none, .move (.t 23)⟩])
  (.seq (.seq (.ops [⟨(some 24), none, .move (.t 0)⟩,
    ⟨(some 25), none, .len (.t 24)⟩,
    ⟨(some 26), none, .move (.c (.sc (.int .i64 (0))))⟩])
  (.block 0 (.loop (.seq (.ops [⟨(some 27), none, .bin .lss (.t 26) (.t 25)⟩])
    (.seq (.cond (.t 27)
     (.skip)
     (.exit 0))
    (.seq (.block 1 (.seq (.ops [⟨(some 28), none, .move (.t 26)⟩,
       ⟨(some 9), none, .move (.t 28)⟩])
     (.seq (.ops [⟨(some 30), none, .move (.t 0)⟩,
       ⟨(some 31), none, .move (.t 9)⟩,
       ⟨(some 32), none, .move (.t 1)⟩,
       ⟨(some 33), none, .call (.c (.fn (.func 361) [] [])) [(.t 30), (.t 31), (.t 32)]⟩,
       ⟨(some 29), none, .move (.t 33)⟩,
       ⟨(some 34), none, .extract 0 (.t 29)⟩,
       ⟨(some 35), none, .extract 1 (.t 29)⟩,
       ⟨(some 10), none, .move (.t 34)⟩,
       ⟨(some 11), none, .move (.t 35)⟩])
     (.seq (.seq (.ops [⟨(some 36), none, .move (.t 11)⟩,
       ⟨(some 37), none, .un .not (.t 36)⟩])
     (.cond (.t 37)
      (.seq (.ops [⟨(some 4), none, .move (.c (.sl true .full 0 []))⟩,
        ⟨(some 5), none, .move (.c (.sc (.int .i64 (21))))⟩])
      (.ret))
      (.skip)))
     (.ops [⟨(some 38), none, .move (.t 8)⟩,
       ⟨(some 39), none, .move (.t 10)⟩,
       ⟨(some 40), none, .buildSl 1 [(.t 39)]⟩,
       ⟨(some 41), none, .append 1 8 (.t 38) (.t 40)⟩,
       ⟨(some 8), none, .move (.t 41)⟩])))))
    (.ops [⟨(some 42), none, .bin .add (.t 26) (.c (.sc (.int .i64 (1))))⟩,
      ⟨(some 26), none, .move (.t 42)⟩])))))))
  (.seq (.ops [⟨(some 43), none, .move (.t 8)⟩,
    ⟨(some 4), none, .move (.t 43)⟩,
    ⟨(some 5), none, .move (.c (.sc (.int .i64 (0))))⟩])
  (.ret))))),
  [.t 4, .t 5]⟩
theorem ok350 : EntryOk Tryz.prog 350 af350 := ⟨Tryz.f350, _, Tryz.func350, by decide, rfl, by kernel_rfl, by kernel_rfl, rfl⟩
/-- hemiola/tuplet.Check -/
noncomputable def af359 : AF := ⟨85, .seq (.ops [⟨(some 4), none, .move (.c (.sc (.int .i64 (0))))⟩])
  (.seq (.seq (.ops [⟨(some 9), none, .move (.t 1)⟩,
    ⟨(some 10), none, .bin .lss (.t 9) (.c (.sc (.int .i64 (0))))⟩,
    ⟨(some 11), none, .move (.t 10)⟩,
    ⟨(some 12), (some (11, false)), .move (.t 1)⟩,
    ⟨(some 13), (some (11, false)), .bin .gtr (.t 12) (.c (.sc (.int .i64 (128))))⟩,
    ⟨(some 14), none, .pick (.t 11) (.c (.sc (.bool true))) (.t 13)⟩])
  (.cond (.t 14)
   (.seq (.ops [⟨(some 4), none, .move (.c (.sc (.int .i64 (2))))⟩])
   (.ret))
   (.skip)))
  (.seq (.seq (.ops [⟨(some 15), none, .move (.t 0)⟩,
    ⟨(some 16), none, .len (.t 15)⟩,
    ⟨(some 17), none, .bin .gtr (.t 16) (.c (.sc (.int .i64 (16))))⟩])
  (.cond (.t 17)
   (.seq (.ops [⟨(some 4), none, .move (.c (.sc (.int .i64 (9))))⟩])
   (.ret))
   (.skip)))
  (.seq (.ops [⟨(some 5), none, .alloc [(.sl true .full 0 [])]⟩])
  (.seq (.ops [⟨(some 18), none, .mkFn (.func 364) [] [(.t 5)]⟩,
    ⟨(some 6), none, .move (.t 18)⟩])
  (.seq (.seq (.ops [⟨(some 19), none, .move (.t 0)⟩,
    ⟨(some 20), none, .len (.t 19)⟩,
    ⟨(some 21), none, .move (.c (.sc (.int .i64 (0))))⟩])
  (.block 0 (.loop (.seq (.ops [⟨(some 22), none, .bin .lss (.t 21) (.t 20)⟩])
    (.seq (.cond (.t 22)
     (.skip)
     (.exit 0))
    (.seq (.block 1 (.seq (.ops [⟨(some 23), none, .move (.t 21)⟩,
       ⟨(some 24), none, .iaddrS 4 (.t 19) (.t 21)⟩,
       ⟨(some 25), none, .load (some 4) (.t 24)⟩,
       ⟨(some 8), none, .alloc [(.sc (.int .i64 (0))), (.sc (.int .i64 (0))), (.sc (.int .i64 (0))), (.sc (.int .i64 (0)))]⟩,
       ⟨(some 7), none, .move (.t 23)⟩,
       ⟨none, none, .store 4 (.t 8) (.t 25)⟩])
     (.seq (.seq (.ops [⟨(some 26), none, .faddr 1 (.t 8)⟩,
       ⟨(some 27), none, .load none (.t 26)⟩,
       ⟨(some 28), none, .bin .lss (.t 27) (.c (.sc (.int .i64 (1))))⟩,
       ⟨(some 29), none, .move (.t 28)⟩,
       ⟨(some 30), (some (29, false)), .faddr 1 (.t 8)⟩,
       ⟨(some 31), (some (29, false)), .load none (.t 30)⟩,
       ⟨(some 32), (some (29, false)), .move (.t 1)⟩,
       ⟨(some 33), (some (29, false)), .bin .gtr (.t 31) (.t 32)⟩,
       ⟨(some 34), none, .pick (.t 29) (.c (.sc (.bool true))) (.t 33)⟩,
       ⟨(some 35), none, .move (.t 34)⟩,
       ⟨(some 36), (some (35, false)), .faddr 0 (.t 8)⟩,
       ⟨(some 37), (some (35, false)), .load none (.t 36)⟩,
       ⟨(some 38), (some (35, false)), .bin .lss (.t 37) (.c (.sc (.int .i64 (0))))⟩,
       ⟨(some 39), none, .pick (.t 35) (.c (.sc (.bool true))) (.t 38)⟩,
       ⟨(some 40), none, .move (.t 39)⟩,
       ⟨(some 41), (some (40, false)), .faddr 0 (.t 8)⟩,
       ⟨(some 42), (some (40, false)), .load none (.t 41)⟩,
       ⟨(some 43), (some (40, false)), .move (.t 1)⟩,
       ⟨(some 44), (some (40, false)), .faddr 1 (.t 8)⟩,
       ⟨(some 45), (some (40, false)), .load none (.t 44)⟩,
       ⟨(some 46), (some (40, false)), .bin .sub (.t 43) (.t 45)⟩,
       ⟨(some 47), (some (40, false)), .bin .gtr (.t 42) (.t 46)⟩,
       ⟨(some 48), none, .pick (.t 40) (.c (.sc (.bool true))) (.t 47)⟩,
       ⟨(some 49), none, .move (.t 48)⟩,
       ⟨(some 50), (some (49, false)), .faddr 2 (.t 8)⟩,
       ⟨(some 51), (some (49, false)), .load none (.t 50)⟩,
       ⟨(some 52), (some (49, false)), .call (.c (.fn (.func 366) [] [])) [(.t 51)]⟩,
       ⟨(some 53), (some (49, false)), .un .not (.t 52)⟩,
       ⟨(some 54), none, .pick (.t 49) (.c (.sc (.bool true))) (.t 53)⟩,
       ⟨(some 55), none, .move (.t 54)⟩,
       ⟨(some 56), (some (55, false)), .faddr 3 (.t 8)⟩,
       ⟨(some 57), (some (55, false)), .load none (.t 56)⟩,
       ⟨(some 58), (some (55, false)), .call (.c (.fn (.func 366) [] [])) [(.t 57)]⟩,
       ⟨(some 59), (some (55, false)), .un .not (.t 58)⟩,
       ⟨(some 60), none, .pick (.t 55) (.c (.sc (.bool true))) (.t 59)⟩,
       ⟨(some 61), none, .move (.t 60)⟩,
       ⟨(some 62), (some (61, false)), .faddr 2 (.t 8)⟩,
       ⟨(some 63), (some (61, false)), .load none (.t 62)⟩,
       ⟨(some 64), (some (61, false)), .faddr 3 (.t 8)⟩,
       ⟨(some 65), (some (61, false)), .load none (.t 64)⟩,
       ⟨(some 66), (some (61, false)), .bin .eql (.t 63) (.t 65)⟩,
       ⟨(some 67), none, .pick (.t 61) (.c (.sc (.bool true))) (.t 66)⟩])
     (.cond (.t 67)
      (.seq (.ops [⟨(some 4), none, .move (.c (.sc (.int .i64 (2))))⟩])
      (.ret))
      (.skip)))
     (.seq (.seq (.draw [⟨true, [7], [], ⟨(some 68), none, .move (.t 7)⟩⟩,
       ⟨true, [68], [], ⟨(some 69), none, .bin .gtr (.t 68) (.c (.sc (.int .i64 (0))))⟩⟩,
       ⟨true, [69], [], ⟨(some 70), none, .move (.t 69)⟩⟩,
       ⟨false, [0, 70], [], ⟨(some 71), (some (70, true)), .move (.t 0)⟩⟩,
       ⟨false, [7, 70], [], ⟨(some 72), (some (70, true)), .move (.t 7)⟩⟩,
       ⟨false, [72, 70], [], ⟨(some 73), (some (70, true)), .bin .sub (.t 72) (.c (.sc (.int .i64 (1))))⟩⟩,
       ⟨false, [71, 73, 70], [], ⟨(some 74), (some (70, true)), .iaddrS 4 (.t 71) (.t 73)⟩⟩,
       ⟨false, [74, 70], [], ⟨(some 75), (some (70, true)), .load (some 4) (.t 74)⟩⟩,
       ⟨false, [8, 70], [], ⟨(some 76), (some (70, true)), .load (some 4) (.t 8)⟩⟩]
       [⟨(some 77), (some (70, true)), .call (.c (.fn (.func 367) [] [])) [(.t 75), (.t 76)]⟩,
       ⟨(some 78), (some (70, true)), .bin .gtr (.t 77) (.c (.sc (.int .i64 (0))))⟩,
       ⟨(some 79), none, .pick (.t 70) (.t 78) (.c (.sc (.bool false)))⟩])
     (.cond (.t 79)
      (.seq (.ops [⟨(some 4), none, .move (.c (.sc (.int .i64 (25))))⟩])
      (.ret))
      (.skip)))
     (.seq (.ops [⟨(some 80), none, .move (.t 6)⟩,
       ⟨(some 81), none, .load (some 4) (.t 8)⟩,
       ⟨(some 82), none, .call (.t 80) [(.t 81)]⟩,
       ⟨(some 83), none, .un .not (.t 82)⟩])
     (.cond (.t 83)
      (.seq (.ops [⟨(some 4), none, .move (.c (.sc (.int .i64 (21))))⟩])
      (.ret))
      (.skip)))))))
    (.ops [⟨(some 84), none, .bin .add (.t 21) (.c (.sc (.int .i64 (1))))⟩,
      ⟨(some 21), none, .move (.t 84)⟩])))))))
  (.seq (.ops [⟨(some 4), none, .move (.c (.sc (.int .i64 (0))))⟩])
  (.ret))))))),
  [.t 4]⟩
theorem ok359 : EntryOk Tryz.prog 359 af359 := ⟨Tryz.f359, _, Tryz.func359, by decide, rfl, by kernel_rfl, by kernel_rfl, rfl⟩
/-- hemiola/duration.ticks -/
noncomputable def af369 : AF := ⟨21, .seq (.ops [⟨(some 1), none, .box (.t 0)⟩,
    ⟨(some 2), none, .move (.c (.sc (.int .i64 (0))))⟩])
  (.seq (.ops [⟨(some 5), none, .faddr 0 (.t 1)⟩,
    ⟨(some 6), none, .load none (.t 5)⟩,
    ⟨(some 7), none, .bin .add (.t 6) (.c (.sc (.int .i64 (1))))⟩,
    ⟨(some 8), none, .bin .shr (.c (.sc (.int .i64 (3870720)))) (.t 7)⟩,
    ⟨(some 3), none, .move (.t 8)⟩])
  (.seq (.ops [⟨(some 9), none, .move (.t 3)⟩,
    ⟨(some 4), none, .move (.t 9)⟩])
  (.seq (.seq (.ops [⟨(some 10), none, .faddr 1 (.t 1)⟩,
    ⟨(some 11), none, .load none (.t 10)⟩,
    ⟨(some 12), none, .move (.c (.sc (.int .i64 (0))))⟩])
  (.block 0 (.loop (.seq (.ops [⟨(some 13), none, .bin .lss (.t 12) (.t 11)⟩])
    (.seq (.cond (.t 13)
     (.skip)
     (.exit 0))
    (.seq (.block 1 (.seq (.ops [⟨(some 14), none, .move (.t 3)⟩,
       ⟨(some 15), none, .bin .quo (.t 14) (.c (.sc (.int .i64 (2))))⟩,
       ⟨(some 3), none, .move (.t 15)⟩])
     (.ops [⟨(some 16), none, .move (.t 4)⟩,
       ⟨(some 17), none, .move (.t 3)⟩,
       ⟨(some 18), none, .bin .add (.t 16) (.t 17)⟩,
       ⟨(some 4), none, .move (.t 18)⟩])))
    (.ops [⟨(some 19), none, .bin .add (.t 12) (.c (.sc (.int .i64 (1))))⟩,
      ⟨(some 12), none, .move (.t 19)⟩])))))))
  (.seq (.ops [⟨(some 20), none, .move (.t 4)⟩,
    ⟨(some 2), none, .move (.t 20)⟩])
  (.ret))))),
  [.t 2]⟩
theorem ok369 : EntryOk Tryz.prog 369 af369 := ⟨Tryz.f369, _, Tryz.func369, by decide, rfl, by kernel_rfl, by kernel_rfl, rfl⟩
end Go.Proofs.YtmbchdfgckmpoaaGreatDoor
