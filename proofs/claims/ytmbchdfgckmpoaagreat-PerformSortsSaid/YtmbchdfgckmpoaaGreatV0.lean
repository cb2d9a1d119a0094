/- Resolved code, printed by a program. -/
import Derived.Test.YtmbchdfgckmpoaaGreatPE21
import Derived.Test.YtmbchdfgckmpoaaGreatProg
namespace Go.Proofs.YtmbchdfgckmpoaaGreat
open Go.PE

/-- hemiola/hemiolalaw46.known -/
noncomputable def af6 : AF := ⟨39, .seq (.ops [⟨(some 0), none, .move (.c (.sc (.bool false)))⟩])
  (.seq (.ops [⟨(some 6), none, .call (.c (.fn (.func 19) [] [])) [(.c (.sc (.int .i64 (0)))), (.c (.sc (.int .i64 (0))))]⟩,
    ⟨(some 7), none, .call (.c (.fn (.func 18) [] [])) [(.t 6)]⟩,
    ⟨(some 5), none, .move (.t 7)⟩,
    ⟨(some 8), none, .extract 0 (.t 5)⟩,
    ⟨(some 9), none, .extract 1 (.t 5)⟩,
    ⟨(some 1), none, .move (.t 8)⟩,
    ⟨(some 2), none, .move (.t 9)⟩])
  (.seq (.ops [⟨(some 11), none, .call (.c (.fn (.func 19) [] [])) [(.c (.sc (.int .i64 (4)))), (.c (.sc (.int .i64 (6))))]⟩,
    ⟨(some 12), none, .build [(.sc (.int .i64 (0))), (.sc (.int .i64 (0)))] [((1, 1), (.c (.sc (.int .i64 (4)))))]⟩,
    ⟨(some 13), none, .call (.c (.fn (.func 20) [] [])) [(.t 11), (.t 12)]⟩,
    ⟨(some 10), none, .move (.t 13)⟩,
    ⟨(some 14), none, .extract 0 (.t 10)⟩,
    ⟨(some 15), none, .extract 1 (.t 10)⟩,
    ⟨(some 3), none, .move (.t 14)⟩,
    ⟨(some 4), none, .move (.t 15)⟩])
  (.seq (.ops [⟨(some 16), none, .move (.t 2)⟩,
    ⟨(some 17), none, .bin .eql (.t 16) (.c (.sc (.int .i64 (0))))⟩,
    ⟨(some 18), none, .move (.t 17)⟩,
    ⟨(some 19), (some (18, true)), .move (.t 1)⟩,
    ⟨(some 20), (some (18, true)), .len (.t 19)⟩,
    ⟨(some 21), (some (18, true)), .bin .eql (.t 20) (.c (.sc (.int .i64 (1))))⟩,
    ⟨(some 22), none, .pick (.t 18) (.t 21) (.c (.sc (.bool false)))⟩,
    ⟨(some 23), none, .move (.t 22)⟩,
    ⟨(some 24), (some (23, true)), .move (.t 1)⟩,
    ⟨(some 25), (some (23, true)), .iaddrS 7 (.t 24) (.c (.sc (.int .i64 (0))))⟩,
    ⟨(some 26), (some (23, true)), .load (some 7) (.t 25)⟩,
    ⟨(some 27), (some (23, true)), .build [(.sc (.int .i64 (0))), (.sc (.int .i64 (0)))] [((1, 1), (.c (.sc (.int .i64 (4)))))]⟩,
    ⟨(some 28), (some (23, true)), .build [(.sc (.int .i64 (0))), (.sc (.int .i64 (0))), (.sc (.int .i64 (0))), (.sc (.int .i64 (0))), (.sc (.int .i64 (0))), (.sc (.int .i64 (0))), (.sc (.int .i64 (0)))] [((1, 1), (.c (.sc (.int .i64 (475000))))), ((2, 1), (.c (.sc (.int .i64 (60))))), ((3, 1), (.c (.sc (.int .i64 (76))))), ((5, 2), (.t 27))]⟩,
    ⟨(some 29), (some (23, true)), .eqC [.i, .i, .i, .i, .i, .i, .i] false (.t 26) (.t 28)⟩,
    ⟨(some 30), none, .pick (.t 23) (.t 29) (.c (.sc (.bool false)))⟩,
    ⟨(some 31), none, .move (.t 30)⟩,
    ⟨(some 32), (some (31, true)), .move (.t 4)⟩,
    ⟨(some 33), (some (31, true)), .bin .eql (.t 32) (.c (.sc (.int .i64 (0))))⟩,
    ⟨(some 34), none, .pick (.t 31) (.t 33) (.c (.sc (.bool false)))⟩,
    ⟨(some 35), none, .move (.t 34)⟩,
    ⟨(some 36), (some (35, true)), .move (.t 3)⟩,
    ⟨(some 37), (some (35, true)), .bin .eql (.t 36) (.c (.sc (.int .i64 (106))))⟩,
    ⟨(some 38), none, .pick (.t 35) (.t 37) (.c (.sc (.bool false)))⟩,
    ⟨(some 0), none, .move (.t 38)⟩])
  (.ret)))),
  [.t 0]⟩
theorem ok6 : EntryOk Tryz.prog 6 af6 := ⟨Tryz.f6, _, Tryz.func6, by decide, rfl, by kernel_rfl, by kernel_rfl, rfl⟩
/-- hemiola/hemiolalaw46.simple -/
noncomputable def af19 : AF := ⟨33, .seq (.ops [⟨(some 4), none, .alloc [(.sc (.string ⟨#[]⟩)), (.sc (.bool false)), (.sl true .full 0 []), (.sl true .full 0 []), (.sl true .full 0 []), (.sl true .full 0 [])]⟩])
  (.seq (.ops [⟨(some 6), none, .build [(.sc (.int .i64 (0))), (.sc (.int .i64 (0)))] [((1, 1), (.c (.sc (.int .i64 (4)))))]⟩,
    ⟨(some 7), none, .build [(.sc (.int .i64 (0))), (.sc (.int .i64 (0)))] [((0, 1), (.c (.sc (.int .i64 (2)))))]⟩,
    ⟨(some 8), none, .build [(.sc (.int .i64 (0))), (.sc (.int .i64 (0))), (.sc (.int .i64 (0)))] [((2, 1), (.c (.sc (.int .i64 (4)))))]⟩,
    ⟨(some 9), none, .build [(.sc (.int .i64 (0))), (.sc (.int .i64 (0))), (.sc (.int .i64 (0))), (.sc (.bool false)), (.sc (.int .i64 (0)))] [((0, 3), (.t 8))]⟩,
    ⟨(some 10), none, .buildSl 5 [(.t 9)]⟩,
    ⟨(some 11), none, .move (.t 0)⟩,
    ⟨(some 12), none, .move (.t 1)⟩,
    ⟨(some 13), none, .build [(.sc (.int .i64 (0))), (.sc (.int .i64 (0))), (.sc (.int .i64 (0))), (.sc (.int .i64 (0))), (.sc (.int .i64 (0))), (.sl true .full 0 []), (.sl true .full 0 []), (.sc (.int .i64 (0))), (.sc (.int .i64 (0))), (.sc (.int .i64 (0))), (.sl true .full 0 []), (.sc (.int .i64 (0))), (.sc (.int .i64 (0)))] [((0, 2), (.t 6)), ((2, 1), (.c (.sc (.int .i64 (1))))), ((3, 2), (.t 7)), ((5, 1), (.t 10)), ((7, 1), (.t 11)), ((9, 1), (.t 12))]⟩,
    ⟨(some 5), none, .alloc [(.sc (.int .i64 (0))), (.sc (.int .i64 (0))), (.sc (.int .i64 (0))), (.sc (.int .i64 (0))), (.sc (.int .i64 (0))), (.sl true .full 0 []), (.sl true .full 0 []), (.sc (.int .i64 (0))), (.sc (.int .i64 (0))), (.sc (.int .i64 (0))), (.sl true .full 0 []), (.sc (.int .i64 (0))), (.sc (.int .i64 (0)))]⟩,
    ⟨none, none, .store 13 (.t 5) (.t 13)⟩])
  (.seq (.ops [⟨(some 14), none, .build [(.sc (.int .i64 (0))), (.sc (.int .i64 (0)))] [((1, 1), (.c (.sc (.int .i64 (1)))))]⟩,
    ⟨(some 15), none, .build [(.sc (.int .i64 (0))), (.sc (.int .i64 (0)))] [((1, 1), (.c (.sc (.int .i64 (2)))))]⟩,
    ⟨(some 16), none, .build [(.sc (.int .i64 (0))), (.sc (.int .i64 (0))), (.sc (.int .i64 (0)))] [((0, 2), (.t 15)), ((2, 1), (.c (.sc (.int .i64 (1)))))]⟩,
    ⟨(some 17), none, .buildSl 3 [(.t 16)]⟩,
    ⟨(some 18), none, .build [(.sc (.int .i64 (0))), (.sc (.int .i64 (0))), (.sc (.string ⟨#[]⟩)), (.sc (.int .i64 (0))), (.sc (.int .i64 (0))), (.sl true .full 0 [])] [((0, 2), (.t 14)), ((5, 1), (.t 17))]⟩,
    ⟨(some 19), none, .buildSl 6 [(.t 18)]⟩,
    ⟨(some 20), none, .build [(.sc (.int .i64 (0))), (.sc (.int .i64 (0)))] [((1, 1), (.c (.sc (.int .i64 (3)))))]⟩,
    ⟨(some 21), none, .build [(.sc (.int .i64 (0))), (.sc (.int .i64 (0))), (.sc (.int .i64 (0))), (.sc (.int .i64 (0))), (.sc (.int .i64 (0))), (.sc (.int .i64 (0))), (.sc (.int .i64 (0))), (.sc (.int .i64 (0)))] [((0, 1), (.c (.sc (.int .i64 (1))))), ((1, 1), (.c (.sc (.int .i64 (4)))))]⟩,
    ⟨(some 22), none, .load (some 13) (.t 5)⟩,
    ⟨(some 23), none, .buildSl 13 [(.t 22)]⟩,
    ⟨(some 24), none, .build [(.sl true .full 0 []), (.sl true .full 0 [])] [((0, 1), (.t 23))]⟩,
    ⟨(some 25), none, .buildSl 2 [(.t 24)]⟩,
    ⟨(some 26), none, .build [(.sl true .full 0 []), (.sl true .full 0 [])] [((1, 1), (.t 25))]⟩,
    ⟨(some 27), none, .buildSl 2 [(.t 26)]⟩,
    ⟨(some 28), none, .build [(.sc (.int .i64 (0))), (.sc (.int .i64 (0))), (.sc (.int .i64 (0))), (.sc (.int .i64 (0))), (.sc (.int .i64 (0))), (.sc (.int .i64 (0))), (.sc (.int .i64 (0))), (.sc (.int .i64 (0))), (.sc (.int .i64 (0))), (.sc (.int .i64 (0))), (.sc (.int .i64 (0))), (.sc (.int .i64 (0))), (.sc (.bool false)), (.sc (.int .i64 (0))), (.sc (.int .i64 (0))), (.sc (.int .i64 (0))), (.sc (.int .i64 (0))), (.sc (.int .i64 (0))), (.sc (.int .i64 (0))), (.sc (.string ⟨#[]⟩)), (.sl true .full 0 []), (.sl true .full 0 [])] [((0, 2), (.t 20)), ((2, 8), (.t 21)), ((21, 1), (.t 27))]⟩,
    ⟨(some 29), none, .buildSl 22 [(.t 28)]⟩,
    ⟨(some 30), none, .build [(.sc (.int .i64 (0))), (.sc (.int .i64 (0)))] [((1, 1), (.c (.sc (.int .i64 (4)))))]⟩,
    ⟨(some 31), none, .buildSl 2 [(.t 30)]⟩,
    ⟨(some 32), none, .build [(.sc (.string ⟨#[]⟩)), (.sc (.bool false)), (.sl true .full 0 []), (.sl true .full 0 []), (.sl true .full 0 []), (.sl true .full 0 [])] [((2, 1), (.t 19)), ((3, 1), (.t 29)), ((5, 1), (.t 31))]⟩,
    ⟨none, none, .store 6 (.t 4) (.t 32)⟩])
  (.ret))),
  [.c 4 (some 6)]⟩
theorem ok19 : EntryOk Tryz.prog 19 af19 := ⟨Tryz.f19, _, Tryz.func19, by decide, rfl, by kernel_rfl, by kernel_rfl, rfl⟩
/-- hemiola/check.Valid -/
noncomputable def af29 : AF := ⟨7, .seq (.ops [⟨(some 1), none, .box (.t 0)⟩,
    ⟨(some 2), none, .move (.c (.sc (.bool false)))⟩])
  (.seq (.ops [⟨(some 3), none, .load (some 6) (.t 1)⟩,
    ⟨(some 4), none, .call (.c (.fn (.func 41) [] [])) [(.t 3)]⟩,
    ⟨(some 5), none, .len (.t 4)⟩,
    ⟨(some 6), none, .bin .eql (.t 5) (.c (.sc (.int .i64 (0))))⟩,
    ⟨(some 2), none, .move (.t 6)⟩])
  (.ret)),
  [.t 2]⟩
theorem ok29 : EntryOk Tryz.prog 29 af29 := ⟨Tryz.f29, _, Tryz.func29, by decide, rfl, by kernel_rfl, by kernel_rfl, rfl⟩
/-- hemiola/perform.find -/
noncomputable def af33 : AF := ⟨106, .seq (.ops [⟨(some 1), none, .box (.t 0)⟩,
    ⟨(some 2), none, .move (.c (.sc (.map none)))⟩])
  (.seq (.ops [⟨(some 19), none, .mkMap⟩,
    ⟨(some 3), none, .move (.t 19)⟩])
  (.seq (.ops [⟨(some 21), none, .load (some 6) (.t 1)⟩,
    ⟨(some 22), none, .call (.c (.fn (.func 43) [] [])) [(.t 21)]⟩,
    ⟨(some 20), none, .move (.t 22)⟩,
    ⟨(some 23), none, .extract 0 (.t 20)⟩,
    ⟨(some 24), none, .extract 1 (.t 20)⟩,
    ⟨(some 4), none, .move (.t 23)⟩,
    ⟨(some 5), none, .move (.t 24)⟩])
  (.seq (.seq (.ops [⟨(some 25), none, .faddr 3 (.t 1)⟩,
    ⟨(some 26), none, .load none (.t 25)⟩,
    ⟨(some 27), none, .len (.t 26)⟩,
    ⟨(some 28), none, .move (.c (.sc (.int .i64 (0))))⟩])
  (.block 0 (.loop (.seq (.ops [⟨(some 29), none, .bin .lss (.t 28) (.t 27)⟩])
    (.seq (.cond (.t 29)
     (.skip)
     (.exit 0))
    (.seq (.block 1 (.seq (.ops [⟨(some 30), none, .move (.t 28)⟩,
       ⟨(some 6), none, .move (.t 30)⟩])
     (.seq (.ops [⟨(some 32), none, .faddr 3 (.t 1)⟩,
       ⟨(some 33), none, .load none (.t 32)⟩,
       ⟨(some 34), none, .move (.t 6)⟩,
       ⟨(some 35), none, .iaddrS 22 (.t 33) (.t 34)⟩,
       ⟨(some 36), none, .load (some 22) (.t 35)⟩,
       ⟨(some 37), none, .call (.c (.fn (.func 53) [] [])) [(.t 36)]⟩,
       ⟨(some 31), none, .move (.t 37)⟩,
       ⟨(some 38), none, .extract 0 (.t 31)⟩,
       ⟨(some 39), none, .extract 1 (.t 31)⟩,
       ⟨(some 7), none, .move (.t 38)⟩,
       ⟨(some 8), none, .move (.t 39)⟩])
     (.seq (.ops [⟨(some 40), none, .faddr 3 (.t 1)⟩,
       ⟨(some 41), none, .load none (.t 40)⟩,
       ⟨(some 42), none, .move (.t 6)⟩,
       ⟨(some 43), none, .iaddrS 22 (.t 41) (.t 42)⟩,
       ⟨(some 44), none, .faddr 21 (.t 43)⟩,
       ⟨(some 45), none, .load none (.t 44)⟩,
       ⟨(some 46), none, .len (.t 45)⟩,
       ⟨(some 47), none, .move (.c (.sc (.int .i64 (0))))⟩])
     (.block 2 (.loop (.seq (.ops [⟨(some 48), none, .bin .lss (.t 47) (.t 46)⟩])
       (.seq (.cond (.t 48)
        (.skip)
        (.exit 2))
       (.seq (.block 3 (.seq (.ops [⟨(some 49), none, .move (.t 47)⟩,
          ⟨(some 50), none, .iaddrS 2 (.t 45) (.t 47)⟩,
          ⟨(some 51), none, .load (some 2) (.t 50)⟩,
          ⟨(some 10), none, .alloc [(.sl true .full 0 []), (.sl true .full 0 [])]⟩,
          ⟨(some 9), none, .move (.t 49)⟩,
          ⟨none, none, .store 2 (.t 10) (.t 51)⟩])
        (.seq (.ops [⟨(some 52), none, .faddr 1 (.t 10)⟩,
          ⟨(some 53), none, .load none (.t 52)⟩,
          ⟨(some 54), none, .len (.t 53)⟩,
          ⟨(some 55), none, .move (.c (.sc (.int .i64 (0))))⟩])
        (.block 4 (.loop (.seq (.ops [⟨(some 56), none, .bin .lss (.t 55) (.t 54)⟩])
          (.seq (.cond (.t 56)
           (.skip)
           (.exit 4))
          (.seq (.block 5 (.seq (.ops [⟨(some 57), none, .move (.t 55)⟩,
             ⟨(some 58), none, .iaddrS 2 (.t 53) (.t 55)⟩,
             ⟨(some 59), none, .load (some 2) (.t 58)⟩,
             ⟨(some 12), none, .alloc [(.sl true .full 0 []), (.sl true .full 0 [])]⟩,
             ⟨(some 11), none, .move (.t 57)⟩,
             ⟨none, none, .store 2 (.t 12) (.t 59)⟩])
           (.seq (.ops [⟨(some 61), none, .load (some 2) (.t 12)⟩,
             ⟨(some 62), none, .move (.t 7)⟩,
             ⟨(some 63), none, .call (.c (.fn (.func 54) [] [])) [(.t 61), (.t 62)]⟩,
             ⟨(some 60), none, .move (.t 63)⟩,
             ⟨(some 64), none, .extract 0 (.t 60)⟩,
             ⟨(some 65), none, .extract 1 (.t 60)⟩,
             ⟨(some 13), none, .move (.t 64)⟩,
             ⟨(some 14), none, .move (.t 65)⟩])
           (.seq (.ops [⟨(some 67), none, .load (some 2) (.t 12)⟩,
             ⟨(some 68), none, .move (.t 7)⟩,
             ⟨(some 69), none, .call (.c (.fn (.func 55) [] [])) [(.t 67), (.t 68)]⟩,
             ⟨(some 66), none, .move (.t 69)⟩,
             ⟨(some 70), none, .extract 0 (.t 66)⟩,
             ⟨(some 71), none, .extract 1 (.t 66)⟩,
             ⟨(some 15), none, .move (.t 70)⟩,
             ⟨(some 16), none, .move (.t 71)⟩])
           (.seq (.ops [⟨(some 72), none, .faddr 0 (.t 12)⟩,
             ⟨(some 73), none, .load none (.t 72)⟩,
             ⟨(some 74), none, .len (.t 73)⟩,
             ⟨(some 75), none, .move (.c (.sc (.int .i64 (0))))⟩])
           (.block 6 (.loop (.seq (.ops [⟨(some 76), none, .bin .lss (.t 75) (.t 74)⟩])
             (.seq (.cond (.t 76)
              (.skip)
              (.exit 6))
             (.seq (.block 7 (.seq (.ops [⟨(some 77), none, .move (.t 75)⟩,
                ⟨(some 78), none, .iaddrS 13 (.t 73) (.t 75)⟩,
                ⟨(some 79), none, .load (some 13) (.t 78)⟩,
                ⟨(some 18), none, .alloc [(.sc (.int .i64 (0))), (.sc (.int .i64 (0))), (.sc (.int .i64 (0))), (.sc (.int .i64 (0))), (.sc (.int .i64 (0))), (.sl true .full 0 []), (.sl true .full 0 []), (.sc (.int .i64 (0))), (.sc (.int .i64 (0))), (.sc (.int .i64 (0))), (.sl true .full 0 []), (.sc (.int .i64 (0))), (.sc (.int .i64 (0)))]⟩,
                ⟨(some 17), none, .move (.t 77)⟩,
                ⟨none, none, .store 13 (.t 18) (.t 79)⟩])
              (.draw [⟨false, [3], [], ⟨(some 80), none, .move (.t 3)⟩⟩,
                ⟨false, [18], [], ⟨(some 81), none, .faddr 0 (.t 18)⟩⟩,
                ⟨false, [81], [], ⟨(some 82), none, .load (some 2) (.t 81)⟩⟩,
                ⟨false, [18], [], ⟨(some 83), none, .load (some 13) (.t 18)⟩⟩,
                ⟨false, [9], [], ⟨(some 84), none, .move (.t 9)⟩⟩,
                ⟨false, [11], [], ⟨(some 85), none, .move (.t 11)⟩⟩,
                ⟨false, [6], [], ⟨(some 86), none, .move (.t 6)⟩⟩,
                ⟨false, [4], [], ⟨(some 87), none, .move (.t 4)⟩⟩,
                ⟨false, [6], [], ⟨(some 88), none, .move (.t 6)⟩⟩,
                ⟨false, [87, 88], [], ⟨(some 89), none, .iaddrS 1 (.t 87) (.t 88)⟩⟩,
                ⟨false, [89], [], ⟨(some 90), none, .load none (.t 89)⟩⟩,
                ⟨false, [13], [], ⟨(some 91), none, .move (.t 13)⟩⟩,
                ⟨false, [17], [], ⟨(some 92), none, .move (.t 17)⟩⟩,
                ⟨false, [91, 92], [], ⟨(some 93), none, .iaddrS 1 (.t 91) (.t 92)⟩⟩,
                ⟨false, [93], [], ⟨(some 94), none, .load none (.t 93)⟩⟩,
                ⟨false, [90, 94], [], ⟨(some 95), none, .bin .add (.t 90) (.t 94)⟩⟩,
                ⟨false, [15], [], ⟨(some 96), none, .move (.t 15)⟩⟩,
                ⟨false, [17], [], ⟨(some 97), none, .move (.t 17)⟩⟩,
                ⟨false, [96, 97], [], ⟨(some 98), none, .iaddrS 1 (.t 96) (.t 97)⟩⟩,
                ⟨false, [98], [], ⟨(some 99), none, .load none (.t 98)⟩⟩,
                ⟨false, [83, 84, 85, 86, 95, 99], [], ⟨(some 100), none, .build [(.sc (.int .i64 (0))), (.sc (.int .i64 (0))), (.sc (.int .i64 (0))), (.sc (.int .i64 (0))), (.sc (.int .i64 (0))), (.sl true .full 0 []), (.sl true .full 0 []), (.sc (.int .i64 (0))), (.sc (.int .i64 (0))), (.sc (.int .i64 (0))), (.sl true .full 0 []), (.sc (.int .i64 (0))), (.sc (.int .i64 (0))), (.sc (.int .i64 (0))), (.sc (.int .i64 (0))), (.sc (.int .i64 (0))), (.sc (.int .i64 (0))), (.sc (.int .i64 (0)))] [((0, 13), (.t 83)), ((13, 1), (.t 84)), ((14, 1), (.t 85)), ((15, 1), (.t 86)), ((16, 1), (.t 95)), ((17, 1), (.t 99))]⟩⟩]
                [⟨none, none, .mapUp [.i, .i] true (.t 80) (.t 82) (.t 100)⟩])))
             (.ops [⟨(some 101), none, .bin .add (.t 75) (.c (.sc (.int .i64 (1))))⟩,
               ⟨(some 75), none, .move (.t 101)⟩])))))))))))
          (.ops [⟨(some 102), none, .bin .add (.t 55) (.c (.sc (.int .i64 (1))))⟩,
            ⟨(some 55), none, .move (.t 102)⟩])))))))))
       (.ops [⟨(some 103), none, .bin .add (.t 47) (.c (.sc (.int .i64 (1))))⟩,
         ⟨(some 47), none, .move (.t 103)⟩]))))))))))
    (.ops [⟨(some 104), none, .bin .add (.t 28) (.c (.sc (.int .i64 (1))))⟩,
      ⟨(some 28), none, .move (.t 104)⟩])))))))
  (.seq (.ops [⟨(some 105), none, .move (.t 3)⟩,
    ⟨(some 2), none, .move (.t 105)⟩])
  (.ret))))),
  [.t 2]⟩
theorem ok33 : EntryOk Tryz.prog 33 af33 := ⟨Tryz.f33, _, Tryz.func33, by decide, rfl, by kernel_rfl, by kernel_rfl, rfl⟩
/-- hemiola/perform.velocity -/
noncomputable def af37 : AF := ⟨32, .seq (.ops [⟨(some 2), none, .box (.t 0)⟩,
    ⟨(some 4), none, .move (.c (.sc (.int .i64 (0))))⟩])
  (.seq (.ops [⟨(some 6), none, .move (.t 1)⟩,
    ⟨(some 7), none, .faddr 16 (.t 2)⟩,
    ⟨(some 8), none, .load none (.t 7)⟩,
    ⟨(some 9), none, .call (.t 6) [(.t 8)]⟩,
    ⟨(some 5), none, .move (.t 9)⟩])
  (.seq (.seq (.ops [⟨(some 10), none, .faddr 0 (.t 2)⟩,
    ⟨(some 11), none, .faddr 7 (.t 10)⟩,
    ⟨(some 12), none, .load none (.t 11)⟩,
    ⟨(some 13), none, .bin .and (.t 12) (.c (.sc (.int .i64 (4))))⟩,
    ⟨(some 14), none, .bin .neq (.t 13) (.c (.sc (.int .i64 (0))))⟩])
  (.cond (.t 14)
   (.ops [⟨(some 15), none, .move (.t 5)⟩,
     ⟨(some 16), none, .bin .add (.t 15) (.c (.sc (.int .i64 (16))))⟩,
     ⟨(some 5), none, .move (.t 16)⟩])
   (.skip)))
  (.seq (.seq (.ops [⟨(some 17), none, .faddr 0 (.t 2)⟩,
    ⟨(some 18), none, .faddr 7 (.t 17)⟩,
    ⟨(some 19), none, .load none (.t 18)⟩,
    ⟨(some 20), none, .bin .and (.t 19) (.c (.sc (.int .i64 (8))))⟩,
    ⟨(some 21), none, .bin .neq (.t 20) (.c (.sc (.int .i64 (0))))⟩])
  (.cond (.t 21)
   (.ops [⟨(some 22), none, .move (.t 5)⟩,
     ⟨(some 23), none, .bin .add (.t 22) (.c (.sc (.int .i64 (16))))⟩,
     ⟨(some 5), none, .move (.t 23)⟩])
   (.skip)))
  (.seq (.seq (.ops [⟨(some 24), none, .faddr 0 (.t 2)⟩,
    ⟨(some 25), none, .faddr 9 (.t 24)⟩,
    ⟨(some 26), none, .load none (.t 25)⟩,
    ⟨(some 27), none, .bin .eql (.t 26) (.c (.sc (.int .i64 (9))))⟩])
  (.cond (.t 27)
   (.ops [⟨(some 28), none, .move (.t 5)⟩,
     ⟨(some 29), none, .bin .add (.t 28) (.c (.sc (.int .i64 (32))))⟩,
     ⟨(some 5), none, .move (.t 29)⟩])
   (.skip)))
  (.seq (.ops [⟨(some 30), none, .move (.t 5)⟩,
    ⟨(some 31), none, .mm false [(.t 30), (.c (.sc (.int .i64 (127))))]⟩,
    ⟨(some 4), none, .move (.t 31)⟩])
  (.ret)))))),
  [.t 4]⟩
theorem ok37 : EntryOk Tryz.prog 37 af37 := ⟨Tryz.f37, _, Tryz.func37, by decide, rfl, by kernel_rfl, by kernel_rfl, rfl⟩
/-- hemiola/unfold.order -/
noncomputable def af42 : AF := ⟨4, .seq (.ops [⟨(some 1), none, .box (.t 0)⟩,
    ⟨(some 2), none, .move (.c (.sc .nilFunc))⟩])
  (.seq (.ops [⟨(some 3), none, .mkFn (.func 92) [] [(.t 1)]⟩,
    ⟨(some 2), none, .move (.t 3)⟩])
  (.ret)),
  [.t 2]⟩
theorem ok42 : EntryOk Tryz.prog 42 af42 := ⟨Tryz.f42, _, Tryz.func42, by decide, rfl, by kernel_rfl, by kernel_rfl, rfl⟩
/-- slices.ContainsFunc[[]hemiola/api.Bar,hemiola/api.Bar] -/
noncomputable def af46 : AF := ⟨9, .seq (.ops [⟨(some 4), none, .move (.c (.sc (.bool false)))⟩])
  (.seq (.ops [⟨(some 5), none, .move (.t 0)⟩,
    ⟨(some 6), none, .move (.t 1)⟩,
    ⟨(some 7), none, .call (.c (.fn (.func 103) [] [])) [(.t 5), (.t 6)]⟩,
    ⟨(some 8), none, .bin .geq (.t 7) (.c (.sc (.int .i64 (0))))⟩,
    ⟨(some 4), none, .move (.t 8)⟩])
  (.ret)),
  [.t 4]⟩
theorem ok46 : EntryOk Tryz.prog 46 af46 := ⟨Tryz.f46, _, Tryz.func46, by decide, rfl, by kernel_rfl, by kernel_rfl, rfl⟩
/-- hemiola/tempo.add -/
noncomputable def af50 : AF := ⟨51, .seq (.ops [⟨(some 3), none, .box (.t 1)⟩,
    ⟨(some 4), none, .move (.c (.sl true .full 0 []))⟩])
  (.seq (.seq (.ops [⟨(some 6), none, .move (.t 0)⟩,
    ⟨(some 7), none, .len (.t 6)⟩,
    ⟨(some 5), none, .move (.t 7)⟩])
  (.seq (.draw [⟨true, [5], [], ⟨(some 8), none, .move (.t 5)⟩⟩,
    ⟨true, [8], [], ⟨(some 9), none, .bin .gtr (.t 8) (.c (.sc (.int .i64 (0))))⟩⟩,
    ⟨true, [9], [], ⟨(some 10), none, .move (.t 9)⟩⟩,
    ⟨false, [3, 10], [], ⟨(some 11), (some (10, true)), .faddr 2 (.t 3)⟩⟩,
    ⟨false, [11, 10], [], ⟨(some 12), (some (10, true)), .load none (.t 11)⟩⟩,
    ⟨false, [3, 10], [], ⟨(some 13), (some (10, true)), .faddr 3 (.t 3)⟩⟩,
    ⟨false, [13, 10], [], ⟨(some 14), (some (10, true)), .load none (.t 13)⟩⟩,
    ⟨true, [12, 14, 10], [], ⟨(some 15), (some (10, true)), .bin .eql (.t 12) (.t 14)⟩⟩,
    ⟨true, [10, 15], [], ⟨(some 16), none, .pick (.t 10) (.t 15) (.c (.sc (.bool false)))⟩⟩,
    ⟨true, [16], [], ⟨(some 17), none, .move (.t 16)⟩⟩,
    ⟨false, [0, 17], [], ⟨(some 18), (some (17, true)), .move (.t 0)⟩⟩,
    ⟨false, [5, 17], [], ⟨(some 19), (some (17, true)), .move (.t 5)⟩⟩,
    ⟨false, [19, 17], [], ⟨(some 20), (some (17, true)), .bin .sub (.t 19) (.c (.sc (.int .i64 (1))))⟩⟩,
    ⟨false, [18, 20, 17], [], ⟨(some 21), (some (17, true)), .iaddrS 5 (.t 18) (.t 20)⟩⟩,
    ⟨false, [21, 17], [], ⟨(some 22), (some (17, true)), .faddr 2 (.t 21)⟩⟩,
    ⟨false, [22, 17], [], ⟨(some 23), (some (17, true)), .load none (.t 22)⟩⟩,
    ⟨false, [3, 17], [], ⟨(some 24), (some (17, true)), .faddr 2 (.t 3)⟩⟩,
    ⟨false, [24, 17], [], ⟨(some 25), (some (17, true)), .load none (.t 24)⟩⟩,
    ⟨true, [23, 25, 17], [], ⟨(some 26), (some (17, true)), .bin .eql (.t 23) (.t 25)⟩⟩,
    ⟨true, [17, 26], [], ⟨(some 27), none, .pick (.t 17) (.t 26) (.c (.sc (.bool false)))⟩⟩,
    ⟨true, [27], [], ⟨(some 28), none, .move (.t 27)⟩⟩,
    ⟨false, [0, 28], [], ⟨(some 29), (some (28, true)), .move (.t 0)⟩⟩,
    ⟨false, [5, 28], [], ⟨(some 30), (some (28, true)), .move (.t 5)⟩⟩,
    ⟨false, [30, 28], [], ⟨(some 31), (some (28, true)), .bin .sub (.t 30) (.c (.sc (.int .i64 (1))))⟩⟩,
    ⟨false, [29, 31, 28], [], ⟨(some 32), (some (28, true)), .iaddrS 5 (.t 29) (.t 31)⟩⟩,
    ⟨false, [32, 28], [], ⟨(some 33), (some (28, true)), .faddr 3 (.t 32)⟩⟩,
    ⟨false, [33, 28], [], ⟨(some 34), (some (28, true)), .load none (.t 33)⟩⟩,
    ⟨false, [3, 28], [], ⟨(some 35), (some (28, true)), .faddr 2 (.t 3)⟩⟩,
    ⟨false, [35, 28], [], ⟨(some 36), (some (28, true)), .load none (.t 35)⟩⟩]
    [⟨(some 37), (some (28, true)), .bin .eql (.t 34) (.t 36)⟩,
    ⟨(some 38), none, .pick (.t 28) (.t 37) (.c (.sc (.bool false)))⟩])
  (.cond (.t 38)
   (.seq (.ops [⟨(some 39), none, .move (.t 0)⟩,
     ⟨(some 40), none, .move (.t 5)⟩,
     ⟨(some 41), none, .bin .sub (.t 40) (.c (.sc (.int .i64 (1))))⟩,
     ⟨(some 42), none, .faddr 1 (.t 3)⟩,
     ⟨(some 43), none, .load none (.t 42)⟩,
     ⟨(some 44), none, .iaddrS 5 (.t 39) (.t 41)⟩,
     ⟨(some 45), none, .faddr 1 (.t 44)⟩,
     ⟨none, none, .store 1 (.t 45) (.t 43)⟩])
   (.seq (.ops [⟨(some 46), none, .move (.t 0)⟩,
     ⟨(some 4), none, .move (.t 46)⟩])
   (.ret)))
   (.skip))))
  (.seq (.ops [⟨(some 47), none, .move (.t 0)⟩,
    ⟨(some 48), none, .load (some 5) (.t 3)⟩,
    ⟨(some 49), none, .buildSl 5 [(.t 48)]⟩,
    ⟨(some 50), none, .appendM 5 40 (.t 47) (.t 49)⟩,
    ⟨(some 4), none, .move (.t 50)⟩])
  (.ret))),
  [.t 4]⟩
theorem ok50 : EntryOk Tryz.prog 50 af50 := ⟨Tryz.f50, _, Tryz.func50, by decide, rfl, by kernel_rfl, by kernel_rfl, rfl⟩
/-- hemiola/voice.Onsets -/
noncomputable def af54 : AF := ⟨19, .seq (.ops [⟨(some 2), none, .box (.t 0)⟩,
    ⟨(some 4), none, .move (.c (.sl true .full 0 []))⟩,
    ⟨(some 5), none, .move (.c (.sc (.int .i64 (0))))⟩])
  (.seq (.ops [⟨(some 9), none, .load (some 2) (.t 2)⟩,
    ⟨(some 10), none, .move (.t 1)⟩,
    ⟨(some 11), none, .call (.c (.fn (.func 108) [] [])) [(.t 9), (.t 10)]⟩,
    ⟨(some 8), none, .move (.t 11)⟩,
    ⟨(some 12), none, .extract 0 (.t 8)⟩,
    ⟨(some 13), none, .extract 1 (.t 8)⟩,
    ⟨(some 6), none, .move (.t 12)⟩,
    ⟨(some 7), none, .move (.t 13)⟩])
  (.seq (.seq (.ops [⟨(some 14), none, .move (.t 7)⟩,
    ⟨(some 15), none, .bin .neq (.t 14) (.c (.sc (.int .i64 (0))))⟩])
  (.cond (.t 15)
   (.seq (.ops [⟨(some 16), none, .move (.t 7)⟩,
     ⟨(some 4), none, .move (.c (.sl true .full 0 []))⟩,
     ⟨(some 5), none, .move (.t 16)⟩])
   (.ret))
   (.skip)))
  (.seq (.ops [⟨(some 17), none, .move (.t 6)⟩,
    ⟨(some 18), none, .call (.c (.fn (.func 109) [] [])) [(.t 17)]⟩,
    ⟨(some 4), none, .move (.t 18)⟩,
    ⟨(some 5), none, .move (.c (.sc (.int .i64 (0))))⟩])
  (.ret)))),
  [.t 4, .t 5]⟩
theorem ok54 : EntryOk Tryz.prog 54 af54 := ⟨Tryz.f54, _, Tryz.func54, by decide, rfl, by kernel_rfl, by kernel_rfl, rfl⟩
/-- (*hemiola/perform.player).play$1 -/
noncomputable def af58 : AF := ⟨39, .seq (.seq (.ops [⟨(some 13), none, .move (.t 3)⟩,
    ⟨(some 14), none, .bin .lss (.t 13) (.c (.sc (.int .i64 (0))))⟩,
    ⟨(some 15), none, .move (.t 14)⟩,
    ⟨(some 16), (some (15, false)), .move (.t 3)⟩,
    ⟨(some 17), (some (15, false)), .bin .gtr (.t 16) (.c (.sc (.int .i64 (127))))⟩,
    ⟨(some 18), none, .pick (.t 15) (.c (.sc (.bool true))) (.t 17)⟩])
  (.cond (.t 18)
   (.ret)
   (.skip)))
  (.seq (.ops [⟨(some 19), none, .load none (.t 4)⟩,
    ⟨(some 20), none, .move (.t 0)⟩,
    ⟨(some 21), none, .call (.c (.fn (.func 59) [] [])) [(.t 19), (.t 20)]⟩,
    ⟨(some 12), none, .move (.t 21)⟩])
  (.draw [⟨false, [5], [4], ⟨(some 22), none, .load none (.t 5)⟩⟩,
    ⟨false, [12], [], ⟨(some 23), none, .move (.t 12)⟩⟩,
    ⟨false, [4], [], ⟨(some 24), none, .load none (.t 4)⟩⟩,
    ⟨false, [2], [], ⟨(some 25), none, .move (.t 2)⟩⟩,
    ⟨true, [24, 25], [], ⟨(some 26), none, .call (.c (.fn (.func 59) [] [])) [(.t 24), (.t 25)]⟩⟩,
    ⟨false, [12], [], ⟨(some 27), none, .move (.t 12)⟩⟩,
    ⟨false, [27], [], ⟨(some 28), none, .bin .add (.t 27) (.c (.sc (.int .i64 (1))))⟩⟩,
    ⟨false, [26, 28], [], ⟨(some 29), none, .mm true [(.t 26), (.t 28)]⟩⟩,
    ⟨false, [3], [], ⟨(some 30), none, .move (.t 3)⟩⟩,
    ⟨false, [6], [4], ⟨(some 31), none, .load none (.t 6)⟩⟩,
    ⟨false, [7], [], ⟨(some 32), none, .faddr 3 (.t 7)⟩⟩,
    ⟨false, [32], [4], ⟨(some 33), none, .load none (.t 32)⟩⟩,
    ⟨false, [7], [], ⟨(some 34), none, .faddr 6 (.t 7)⟩⟩,
    ⟨false, [34], [4], ⟨(some 35), none, .load (some 2) (.t 34)⟩⟩,
    ⟨false, [23, 29, 30, 31, 33, 35], [], ⟨(some 36), none, .build [(.sc (.int .i64 (0))), (.sc (.int .i64 (0))), (.sc (.int .i64 (0))), (.sc (.int .i64 (0))), (.sc (.int .i64 (0))), (.sc (.int .i64 (0))), (.sc (.int .i64 (0)))] [((0, 1), (.t 23)), ((1, 1), (.t 29)), ((2, 1), (.t 30)), ((3, 1), (.t 31)), ((4, 1), (.t 33)), ((5, 2), (.t 35))]⟩⟩,
    ⟨false, [36], [], ⟨(some 37), none, .buildSl 7 [(.t 36)]⟩⟩]
    [⟨(some 38), none, .append 7 56 (.t 22) (.t 37)⟩,
    ⟨none, none, .store 1 (.t 5) (.t 38)⟩])),
  []⟩
theorem ok58 : EntryOk Tryz.prog 58 af58 := ⟨Tryz.f58, _, Tryz.func58, by decide, rfl, by kernel_rfl, by kernel_rfl, rfl⟩
/-- hemiola/ornament.Expand -/
noncomputable def af62 : AF := ⟨122, .seq (.ops [⟨(some 8), none, .move (.c (.sl true .full 0 []))⟩,
    ⟨(some 9), none, .move (.c (.sc (.int .i64 (0))))⟩])
  (.seq (.block 0 (.seq (.ops [⟨(some 14), none, .move (.t 0)⟩,
     ⟨(some 15), none, .bin .lss (.t 14) (.c (.sc (.int .i64 (0))))⟩,
     ⟨(some 16), none, .move (.t 15)⟩,
     ⟨(some 17), (some (16, false)), .move (.t 0)⟩,
     ⟨(some 18), (some (16, false)), .bin .gtr (.t 17) (.c (.sc (.int .i64 (4))))⟩,
     ⟨(some 19), none, .pick (.t 16) (.c (.sc (.bool true))) (.t 18)⟩,
     ⟨(some 13), none, .move (.t 19)⟩])
   (.cond (.t 13)
    (.seq (.ops [⟨(some 8), none, .move (.c (.sl true .full 0 []))⟩,
      ⟨(some 9), none, .move (.c (.sc (.int .i64 (11))))⟩])
    (.ret))
    (.seq (.ops [⟨(some 21), none, .move (.t 1)⟩,
      ⟨(some 22), none, .bin .lss (.t 21) (.c (.sc (.int .i64 (1))))⟩,
      ⟨(some 23), none, .move (.t 22)⟩,
      ⟨(some 24), (some (23, false)), .move (.t 1)⟩,
      ⟨(some 25), (some (23, false)), .bin .gtr (.t 24) (.c (.sc (.int .i64 (4398046511104))))⟩,
      ⟨(some 26), none, .pick (.t 23) (.c (.sc (.bool true))) (.t 25)⟩,
      ⟨(some 27), none, .move (.t 26)⟩,
      ⟨(some 28), (some (27, false)), .move (.t 2)⟩,
      ⟨(some 29), (some (27, false)), .bin .lss (.t 28) (.c (.sc (.int .i64 (1))))⟩,
      ⟨(some 30), none, .pick (.t 27) (.c (.sc (.bool true))) (.t 29)⟩,
      ⟨(some 31), none, .move (.t 30)⟩,
      ⟨(some 32), (some (31, false)), .move (.t 2)⟩,
      ⟨(some 33), (some (31, false)), .bin .gtr (.t 32) (.c (.sc (.int .i64 (12))))⟩,
      ⟨(some 34), none, .pick (.t 31) (.c (.sc (.bool true))) (.t 33)⟩,
      ⟨(some 35), none, .move (.t 34)⟩,
      ⟨(some 36), (some (35, false)), .move (.t 3)⟩,
      ⟨(some 37), (some (35, false)), .bin .lss (.t 36) (.c (.sc (.int .i64 (-12))))⟩,
      ⟨(some 38), none, .pick (.t 35) (.c (.sc (.bool true))) (.t 37)⟩,
      ⟨(some 39), none, .move (.t 38)⟩,
      ⟨(some 40), (some (39, false)), .move (.t 3)⟩,
      ⟨(some 41), (some (39, false)), .bin .gtr (.t 40) (.c (.sc (.int .i64 (-1))))⟩,
      ⟨(some 42), none, .pick (.t 39) (.c (.sc (.bool true))) (.t 41)⟩,
      ⟨(some 20), none, .move (.t 42)⟩])
    (.cond (.t 20)
     (.seq (.ops [⟨(some 8), none, .move (.c (.sl true .full 0 []))⟩,
       ⟨(some 9), none, .move (.c (.sc (.int .i64 (2))))⟩])
     (.ret))
     (.skip))))))
  (.seq (.ops [⟨(some 10), none, .move (.c (.sl true .full 0 []))⟩])
  (.seq (.ops [⟨(some 43), none, .move (.t 1)⟩,
    ⟨(some 44), none, .bin .quo (.t 43) (.c (.sc (.int .i64 (4))))⟩,
    ⟨(some 11), none, .move (.t 44)⟩])
  (.seq (.ops [⟨(some 45), none, .move (.t 11)⟩,
    ⟨(some 46), none, .mm false [(.t 45), (.c (.sc (.int .i64 (30240))))]⟩,
    ⟨(some 12), none, .move (.t 46)⟩])
  (.seq (.block 1 (.seq (.ops [⟨(some 48), none, .move (.t 0)⟩,
     ⟨(some 49), none, .bin .eql (.t 48) (.c (.sc (.int .i64 (1))))⟩,
     ⟨(some 47), none, .move (.t 49)⟩])
   (.cond (.t 47)
    (.ops [⟨(some 50), none, .move (.t 1)⟩,
      ⟨(some 51), none, .move (.t 2)⟩,
      ⟨(some 52), none, .call (.c (.fn (.func 122) [] [])) [(.t 50), (.t 51)]⟩,
      ⟨(some 10), none, .move (.t 52)⟩])
    (.seq (.ops [⟨(some 54), none, .move (.t 0)⟩,
      ⟨(some 55), none, .bin .eql (.t 54) (.c (.sc (.int .i64 (4))))⟩,
      ⟨(some 56), none, .move (.t 55)⟩,
      ⟨(some 57), (some (56, true)), .move (.t 11)⟩,
      ⟨(some 58), (some (56, true)), .bin .gtr (.t 57) (.c (.sc (.int .i64 (0))))⟩,
      ⟨(some 59), none, .pick (.t 56) (.t 58) (.c (.sc (.bool false)))⟩,
      ⟨(some 53), none, .move (.t 59)⟩])
    (.cond (.t 53)
     (.ops [⟨(some 60), none, .move (.t 11)⟩,
       ⟨(some 61), none, .move (.t 2)⟩,
       ⟨(some 62), none, .build [(.sc (.int .i64 (0))), (.sc (.int .i64 (0))), (.sc (.int .i64 (0)))] [((0, 1), (.c (.sc (.int .i64 (0))))), ((1, 1), (.t 60)), ((2, 1), (.t 61))]⟩,
       ⟨(some 63), none, .move (.t 11)⟩,
       ⟨(some 64), none, .move (.t 11)⟩,
       ⟨(some 65), none, .bin .mul (.c (.sc (.int .i64 (2)))) (.t 64)⟩,
       ⟨(some 66), none, .build [(.sc (.int .i64 (0))), (.sc (.int .i64 (0))), (.sc (.int .i64 (0)))] [((0, 1), (.t 63)), ((1, 1), (.t 65)), ((2, 1), (.c (.sc (.int .i64 (0)))))]⟩,
       ⟨(some 67), none, .move (.t 11)⟩,
       ⟨(some 68), none, .bin .mul (.c (.sc (.int .i64 (2)))) (.t 67)⟩,
       ⟨(some 69), none, .move (.t 11)⟩,
       ⟨(some 70), none, .bin .mul (.c (.sc (.int .i64 (3)))) (.t 69)⟩,
       ⟨(some 71), none, .move (.t 3)⟩,
       ⟨(some 72), none, .build [(.sc (.int .i64 (0))), (.sc (.int .i64 (0))), (.sc (.int .i64 (0)))] [((0, 1), (.t 68)), ((1, 1), (.t 70)), ((2, 1), (.t 71))]⟩,
       ⟨(some 73), none, .move (.t 11)⟩,
       ⟨(some 74), none, .bin .mul (.c (.sc (.int .i64 (3)))) (.t 73)⟩,
       ⟨(some 75), none, .move (.t 1)⟩,
       ⟨(some 76), none, .build [(.sc (.int .i64 (0))), (.sc (.int .i64 (0))), (.sc (.int .i64 (0)))] [((0, 1), (.t 74)), ((1, 1), (.t 75)), ((2, 1), (.c (.sc (.int .i64 (0)))))]⟩,
       ⟨(some 77), none, .buildSl 3 [(.t 62), (.t 66), (.t 72), (.t 76)]⟩,
       ⟨(some 10), none, .move (.t 77)⟩])
     (.seq (.ops [⟨(some 79), none, .move (.t 0)⟩,
       ⟨(some 80), none, .bin .eql (.t 79) (.c (.sc (.int .i64 (2))))⟩,
       ⟨(some 81), none, .move (.t 80)⟩,
       ⟨(some 82), (some (81, true)), .move (.t 11)⟩,
       ⟨(some 83), (some (81, true)), .bin .gtr (.t 82) (.c (.sc (.int .i64 (0))))⟩,
       ⟨(some 84), none, .pick (.t 81) (.t 83) (.c (.sc (.bool false)))⟩,
       ⟨(some 78), none, .move (.t 84)⟩])
     (.cond (.t 78)
      (.ops [⟨(some 85), none, .move (.t 12)⟩,
        ⟨(some 86), none, .build [(.sc (.int .i64 (0))), (.sc (.int .i64 (0))), (.sc (.int .i64 (0)))] [((0, 1), (.c (.sc (.int .i64 (0))))), ((1, 1), (.t 85)), ((2, 1), (.c (.sc (.int .i64 (0)))))]⟩,
        ⟨(some 87), none, .move (.t 12)⟩,
        ⟨(some 88), none, .move (.t 12)⟩,
        ⟨(some 89), none, .bin .mul (.c (.sc (.int .i64 (2)))) (.t 88)⟩,
        ⟨(some 90), none, .move (.t 3)⟩,
        ⟨(some 91), none, .build [(.sc (.int .i64 (0))), (.sc (.int .i64 (0))), (.sc (.int .i64 (0)))] [((0, 1), (.t 87)), ((1, 1), (.t 89)), ((2, 1), (.t 90))]⟩,
        ⟨(some 92), none, .move (.t 12)⟩,
        ⟨(some 93), none, .bin .mul (.c (.sc (.int .i64 (2)))) (.t 92)⟩,
        ⟨(some 94), none, .move (.t 1)⟩,
        ⟨(some 95), none, .build [(.sc (.int .i64 (0))), (.sc (.int .i64 (0))), (.sc (.int .i64 (0)))] [((0, 1), (.t 93)), ((1, 1), (.t 94)), ((2, 1), (.c (.sc (.int .i64 (0)))))]⟩,
        ⟨(some 96), none, .buildSl 3 [(.t 86), (.t 91), (.t 95)]⟩,
        ⟨(some 10), none, .move (.t 96)⟩])
      (.seq (.ops [⟨(some 98), none, .move (.t 0)⟩,
        ⟨(some 99), none, .bin .eql (.t 98) (.c (.sc (.int .i64 (3))))⟩,
        ⟨(some 100), none, .move (.t 99)⟩,
        ⟨(some 101), (some (100, true)), .move (.t 11)⟩,
        ⟨(some 102), (some (100, true)), .bin .gtr (.t 101) (.c (.sc (.int .i64 (0))))⟩,
        ⟨(some 103), none, .pick (.t 100) (.t 102) (.c (.sc (.bool false)))⟩,
        ⟨(some 97), none, .move (.t 103)⟩])
      (.cond (.t 97)
       (.ops [⟨(some 104), none, .move (.t 12)⟩,
         ⟨(some 105), none, .build [(.sc (.int .i64 (0))), (.sc (.int .i64 (0))), (.sc (.int .i64 (0)))] [((0, 1), (.c (.sc (.int .i64 (0))))), ((1, 1), (.t 104)), ((2, 1), (.c (.sc (.int .i64 (0)))))]⟩,
         ⟨(some 106), none, .move (.t 12)⟩,
         ⟨(some 107), none, .move (.t 12)⟩,
         ⟨(some 108), none, .bin .mul (.c (.sc (.int .i64 (2)))) (.t 107)⟩,
         ⟨(some 109), none, .move (.t 2)⟩,
         ⟨(some 110), none, .build [(.sc (.int .i64 (0))), (.sc (.int .i64 (0))), (.sc (.int .i64 (0)))] [((0, 1), (.t 106)), ((1, 1), (.t 108)), ((2, 1), (.t 109))]⟩,
         ⟨(some 111), none, .move (.t 12)⟩,
         ⟨(some 112), none, .bin .mul (.c (.sc (.int .i64 (2)))) (.t 111)⟩,
         ⟨(some 113), none, .move (.t 1)⟩,
         ⟨(some 114), none, .build [(.sc (.int .i64 (0))), (.sc (.int .i64 (0))), (.sc (.int .i64 (0)))] [((0, 1), (.t 112)), ((1, 1), (.t 113)), ((2, 1), (.c (.sc (.int .i64 (0)))))]⟩,
         ⟨(some 115), none, .buildSl 3 [(.t 105), (.t 110), (.t 114)]⟩,
         ⟨(some 10), none, .move (.t 115)⟩])
       (.skip))))))))))
  (.seq (.seq (.ops [⟨(some 116), none, .move (.t 10)⟩,
    ⟨(some 117), none, .eqN .sl false (.t 116) (.c (.sl true .full 0 []))⟩])
  (.cond (.t 117)
   (.ops [⟨(some 118), none, .move (.t 1)⟩,
     ⟨(some 119), none, .build [(.sc (.int .i64 (0))), (.sc (.int .i64 (0))), (.sc (.int .i64 (0)))] [((0, 1), (.c (.sc (.int .i64 (0))))), ((1, 1), (.t 118)), ((2, 1), (.c (.sc (.int .i64 (0)))))]⟩,
     ⟨(some 120), none, .buildSl 3 [(.t 119)]⟩,
     ⟨(some 10), none, .move (.t 120)⟩])
   (.skip)))
  (.seq (.ops [⟨(some 121), none, .move (.t 10)⟩,
    ⟨(some 8), none, .move (.t 121)⟩,
    ⟨(some 9), none, .move (.c (.sc (.int .i64 (0))))⟩])
  (.ret)))))))),
  [.t 8, .t 9]⟩
theorem ok62 : EntryOk Tryz.prog 62 af62 := ⟨Tryz.f62, _, Tryz.func62, by decide, rfl, by kernel_rfl, by kernel_rfl, rfl⟩
/-- slices.SortStableFunc[[]hemiola/perform.hairpin,hemiola/perform.hairpin] -/
noncomputable def af67 : AF := ⟨9, .ops [⟨(some 4), none, .move (.t 0)⟩,
    ⟨(some 5), none, .move (.t 0)⟩,
    ⟨(some 6), none, .len (.t 5)⟩,
    ⟨(some 7), none, .move (.t 1)⟩,
    ⟨(some 8), none, .call (.c (.fn (.func 127) [] [])) [(.t 4), (.t 6), (.t 7)]⟩],
  []⟩
theorem ok67 : EntryOk Tryz.prog 67 af67 := ⟨Tryz.f67, _, Tryz.func67, by decide, rfl, by kernel_rfl, by kernel_rfl, rfl⟩
/-- slices.insertionSortCmpFunc[hemiola/api.Played] -/
noncomputable def af73 : AF := ⟨53, .seq (.ops [⟨(some 10), none, .move (.t 1)⟩,
    ⟨(some 11), none, .bin .add (.t 10) (.c (.sc (.int .i64 (1))))⟩,
    ⟨(some 8), none, .move (.t 11)⟩])
  (.block 0 (.loop (.seq (.seq (.ops [⟨(some 12), none, .move (.t 8)⟩,
      ⟨(some 13), none, .move (.t 2)⟩,
      ⟨(some 14), none, .bin .lss (.t 12) (.t 13)⟩])
    (.cond (.t 14)
     (.skip)
     (.exit 0)))
    (.seq (.block 1 (.seq (.ops [⟨(some 17), none, .move (.t 8)⟩,
       ⟨(some 9), none, .move (.t 17)⟩])
     (.block 2 (.loop (.seq (.seq (.draw [⟨true, [9], [], ⟨(some 18), none, .move (.t 9)⟩⟩,
         ⟨true, [1], [], ⟨(some 19), none, .move (.t 1)⟩⟩,
         ⟨true, [18, 19], [], ⟨(some 20), none, .bin .gtr (.t 18) (.t 19)⟩⟩,
         ⟨true, [20], [], ⟨(some 21), none, .move (.t 20)⟩⟩,
         ⟨false, [3, 21], [], ⟨(some 22), (some (21, true)), .move (.t 3)⟩⟩,
         ⟨false, [0, 21], [], ⟨(some 23), (some (21, true)), .move (.t 0)⟩⟩,
         ⟨false, [9, 21], [], ⟨(some 24), (some (21, true)), .move (.t 9)⟩⟩,
         ⟨false, [23, 24, 21], [], ⟨(some 25), (some (21, true)), .iaddrS 7 (.t 23) (.t 24)⟩⟩,
         ⟨false, [25, 21], [], ⟨(some 26), (some (21, true)), .load (some 7) (.t 25)⟩⟩,
         ⟨false, [0, 21], [], ⟨(some 27), (some (21, true)), .move (.t 0)⟩⟩,
         ⟨false, [9, 21], [], ⟨(some 28), (some (21, true)), .move (.t 9)⟩⟩,
         ⟨false, [28, 21], [], ⟨(some 29), (some (21, true)), .bin .sub (.t 28) (.c (.sc (.int .i64 (1))))⟩⟩,
         ⟨false, [27, 29, 21], [], ⟨(some 30), (some (21, true)), .iaddrS 7 (.t 27) (.t 29)⟩⟩,
         ⟨false, [30, 21], [], ⟨(some 31), (some (21, true)), .load (some 7) (.t 30)⟩⟩]
         [⟨(some 32), (some (21, true)), .call (.t 22) [(.t 26), (.t 31)]⟩,
         ⟨(some 33), (some (21, true)), .bin .lss (.t 32) (.c (.sc (.int .i64 (0))))⟩,
         ⟨(some 34), none, .pick (.t 21) (.t 33) (.c (.sc (.bool false)))⟩])
       (.cond (.t 34)
        (.skip)
        (.exit 2)))
       (.seq (.block 3 (.draw [⟨false, [0], [], ⟨(some 37), none, .move (.t 0)⟩⟩,
          ⟨false, [9], [], ⟨(some 38), none, .move (.t 9)⟩⟩,
          ⟨false, [0], [], ⟨(some 39), none, .move (.t 0)⟩⟩,
          ⟨false, [9], [], ⟨(some 40), none, .move (.t 9)⟩⟩,
          ⟨false, [40], [], ⟨(some 41), none, .bin .sub (.t 40) (.c (.sc (.int .i64 (1))))⟩⟩,
          ⟨false, [0], [], ⟨(some 42), none, .move (.t 0)⟩⟩,
          ⟨false, [9], [], ⟨(some 43), none, .move (.t 9)⟩⟩,
          ⟨false, [43], [], ⟨(some 44), none, .bin .sub (.t 43) (.c (.sc (.int .i64 (1))))⟩⟩,
          ⟨false, [42, 44], [], ⟨(some 45), none, .iaddrS 7 (.t 42) (.t 44)⟩⟩,
          ⟨false, [45], [], ⟨(some 46), none, .load (some 7) (.t 45)⟩⟩,
          ⟨false, [0], [], ⟨(some 47), none, .move (.t 0)⟩⟩,
          ⟨false, [9], [], ⟨(some 48), none, .move (.t 9)⟩⟩,
          ⟨false, [47, 48], [], ⟨(some 49), none, .iaddrS 7 (.t 47) (.t 48)⟩⟩,
          ⟨false, [49], [], ⟨(some 50), none, .load (some 7) (.t 49)⟩⟩,
          ⟨true, [37, 38], [], ⟨(some 51), none, .iaddrS 7 (.t 37) (.t 38)⟩⟩,
          ⟨true, [51, 46], [], ⟨none, none, .store 7 (.t 51) (.t 46)⟩⟩]
          [⟨(some 52), none, .iaddrS 7 (.t 39) (.t 41)⟩,
          ⟨none, none, .store 7 (.t 52) (.t 50)⟩]))
       (.ops [⟨(some 35), none, .move (.t 9)⟩,
         ⟨(some 36), none, .bin .sub (.t 35) (.c (.sc (.int .i64 (1))))⟩,
         ⟨(some 9), none, .move (.t 36)⟩])))))))
    (.ops [⟨(some 15), none, .move (.t 8)⟩,
      ⟨(some 16), none, .bin .add (.t 15) (.c (.sc (.int .i64 (1))))⟩,
      ⟨(some 8), none, .move (.t 16)⟩]))))),
  []⟩
theorem ok73 : EntryOk Tryz.prog 73 af73 := ⟨Tryz.f73, _, Tryz.func73, by decide, rfl, by kernel_rfl, by kernel_rfl, rfl⟩
/-- (*hemiola/check.checker).clefs -/
noncomputable def af78 : AF := ⟨35, .seq (.seq (.ops [⟨(some 6), none, .move (.t 0)⟩,
    ⟨(some 7), none, .nilCheck (.t 6)⟩,
    ⟨(some 8), none, .faddr 0 (.t 7)⟩,
    ⟨(some 9), none, .faddr 2 (.t 8)⟩,
    ⟨(some 10), none, .load none (.t 9)⟩,
    ⟨(some 11), none, .len (.t 10)⟩,
    ⟨(some 12), none, .move (.c (.sc (.int .i64 (0))))⟩])
  (.block 0 (.loop (.seq (.ops [⟨(some 13), none, .bin .lss (.t 12) (.t 11)⟩])
    (.seq (.cond (.t 13)
     (.skip)
     (.exit 0))
    (.seq (.block 1 (.seq (.ops [⟨(some 14), none, .iaddrS 6 (.t 10) (.t 12)⟩,
       ⟨(some 15), none, .load (some 6) (.t 14)⟩,
       ⟨(some 3), none, .alloc [(.sc (.int .i64 (0))), (.sc (.int .i64 (0))), (.sc (.string ⟨#[]⟩)), (.sc (.int .i64 (0))), (.sc (.int .i64 (0))), (.sl true .full 0 [])]⟩,
       ⟨none, none, .store 6 (.t 3) (.t 15)⟩])
     (.seq (.ops [⟨(some 16), none, .faddr 5 (.t 3)⟩,
       ⟨(some 17), none, .load none (.t 16)⟩,
       ⟨(some 18), none, .len (.t 17)⟩,
       ⟨(some 19), none, .move (.c (.sc (.int .i64 (0))))⟩])
     (.block 2 (.loop (.seq (.ops [⟨(some 20), none, .bin .lss (.t 19) (.t 18)⟩])
       (.seq (.cond (.t 20)
        (.skip)
        (.exit 2))
       (.seq (.block 3 (.seq (.ops [⟨(some 21), none, .iaddrS 3 (.t 17) (.t 19)⟩,
          ⟨(some 22), none, .load (some 3) (.t 21)⟩,
          ⟨(some 5), none, .alloc [(.sc (.int .i64 (0))), (.sc (.int .i64 (0))), (.sc (.int .i64 (0)))]⟩,
          ⟨none, none, .store 3 (.t 5) (.t 22)⟩])
        (.draw [⟨false, [0], [], ⟨(some 23), none, .move (.t 0)⟩⟩,
          ⟨false, [5], [], ⟨(some 24), none, .faddr 2 (.t 5)⟩⟩,
          ⟨false, [24], [], ⟨(some 25), none, .load none (.t 24)⟩⟩,
          ⟨true, [25], [], ⟨(some 26), none, .call (.c (.fn (.func 138) [] [])) [(.t 25)]⟩⟩,
          ⟨false, [26], [], ⟨(some 27), none, .bin .neq (.t 26) (.c (.sc (.int .i64 (0))))⟩⟩,
          ⟨false, [5], [], ⟨(some 28), none, .faddr 0 (.t 5)⟩⟩,
          ⟨false, [28], [3], ⟨(some 29), none, .load (some 2) (.t 28)⟩⟩]
          [⟨(some 30), none, .call (.c (.fn (.func 129) [] [])) [(.t 23), (.t 27), (.t 29)]⟩])))
       (.ops [⟨(some 31), none, .bin .add (.t 19) (.c (.sc (.int .i64 (1))))⟩,
         ⟨(some 19), none, .move (.t 31)⟩])))))))))
    (.ops [⟨(some 32), none, .bin .add (.t 12) (.c (.sc (.int .i64 (1))))⟩,
      ⟨(some 12), none, .move (.t 32)⟩])))))))
  (.ops [⟨(some 33), none, .move (.t 0)⟩,
    ⟨(some 34), none, .call (.c (.fn (.func 136) [] [])) [(.t 33), (.c (.fn (.func 139) [] []))]⟩]),
  []⟩
theorem ok78 : EntryOk Tryz.prog 78 af78 := ⟨Tryz.f78, _, Tryz.func78, by decide, rfl, by kernel_rfl, by kernel_rfl, rfl⟩
/-- (*hemiola/check.checker).events -/
noncomputable def af82 : AF := ⟨4, .ops [⟨(some 2), none, .move (.t 0)⟩,
    ⟨(some 3), none, .call (.c (.fn (.func 144) [] [])) [(.t 2), (.c (.fn (.func 145) [] []))]⟩],
  []⟩
theorem ok82 : EntryOk Tryz.prog 82 af82 := ⟨Tryz.f82, _, Tryz.func82, by decide, rfl, by kernel_rfl, by kernel_rfl, rfl⟩
/-- (*hemiola/check.checker).ends -/
noncomputable def af86 : AF := ⟨31, .seq (.ops [⟨(some 7), none, .move (.t 0)⟩,
    ⟨(some 8), none, .call (.c (.fn (.func 160) [] [])) [(.t 7)]⟩,
    ⟨(some 6), none, .move (.t 8)⟩,
    ⟨(some 9), none, .extract 0 (.t 6)⟩,
    ⟨(some 10), none, .extract 1 (.t 6)⟩,
    ⟨(some 2), none, .move (.t 9)⟩,
    ⟨(some 3), none, .move (.t 10)⟩])
  (.seq (.ops [⟨(some 11), none, .move (.t 0)⟩,
    ⟨(some 12), none, .nilCheck (.t 11)⟩,
    ⟨(some 13), none, .faddr 0 (.t 12)⟩,
    ⟨(some 14), none, .faddr 4 (.t 13)⟩,
    ⟨(some 15), none, .load none (.t 14)⟩,
    ⟨(some 16), none, .len (.t 15)⟩,
    ⟨(some 17), none, .move (.c (.sc (.int .i64 (0))))⟩])
  (.block 0 (.loop (.seq (.ops [⟨(some 18), none, .bin .lss (.t 17) (.t 16)⟩])
    (.seq (.cond (.t 18)
     (.skip)
     (.exit 0))
    (.seq (.block 1 (.seq (.ops [⟨(some 19), none, .move (.t 17)⟩,
       ⟨(some 20), none, .iaddrS 7 (.t 15) (.t 17)⟩,
       ⟨(some 21), none, .load (some 7) (.t 20)⟩,
       ⟨(some 5), none, .alloc [(.sc (.int .i64 (0))), (.sc (.int .i64 (0))), (.sc (.int .i64 (0))), (.sc (.int .i64 (0))), (.sc (.int .i64 (0))), (.sc (.int .i64 (0))), (.sc (.int .i64 (0)))]⟩,
       ⟨(some 4), none, .move (.t 19)⟩,
       ⟨none, none, .store 7 (.t 5) (.t 21)⟩])
     (.draw [⟨false, [0], [], ⟨(some 22), none, .move (.t 0)⟩⟩,
       ⟨false, [3], [], ⟨(some 23), none, .move (.t 3)⟩⟩,
       ⟨false, [4], [], ⟨(some 24), none, .move (.t 4)⟩⟩,
       ⟨false, [23, 24], [], ⟨(some 25), none, .iaddrS 1 (.t 23) (.t 24)⟩⟩,
       ⟨false, [25], [], ⟨(some 26), none, .load none (.t 25)⟩⟩,
       ⟨false, [5], [], ⟨(some 27), none, .faddr 0 (.t 5)⟩⟩,
       ⟨false, [27], [], ⟨(some 28), none, .load (some 2) (.t 27)⟩⟩]
       [⟨(some 29), none, .call (.c (.fn (.func 129) [] [])) [(.t 22), (.t 26), (.t 28)]⟩])))
    (.ops [⟨(some 30), none, .bin .add (.t 17) (.c (.sc (.int .i64 (1))))⟩,
      ⟨(some 17), none, .move (.t 30)⟩]))))))),
  []⟩
theorem ok86 : EntryOk Tryz.prog 86 af86 := ⟨Tryz.f86, _, Tryz.func86, by decide, rfl, by kernel_rfl, by kernel_rfl, rfl⟩
/-- (*hemiola/check.checker).tempi -/
noncomputable def af90 : AF := ⟨4, .ops [⟨(some 2), none, .move (.t 0)⟩,
    ⟨(some 3), none, .call (.c (.fn (.func 136) [] [])) [(.t 2), (.c (.fn (.func 169) [] []))]⟩],
  []⟩
theorem ok90 : EntryOk Tryz.prog 90 af90 := ⟨Tryz.f90, _, Tryz.func90, by decide, rfl, by kernel_rfl, by kernel_rfl, rfl⟩
/-- (hemiola/unfold.group).measures -/
noncomputable def af94 : AF := ⟨4, .seq (.ops [⟨(some 1), none, .box (.t 0)⟩,
    ⟨(some 2), none, .move (.c (.sc .nilFunc))⟩])
  (.seq (.ops [⟨(some 3), none, .mkFn (.func 172) [] [(.t 1)]⟩,
    ⟨(some 2), none, .move (.t 3)⟩])
  (.ret)),
  [.t 2]⟩
theorem ok94 : EntryOk Tryz.prog 94 af94 := ⟨Tryz.f94, _, Tryz.func94, by decide, rfl, by kernel_rfl, by kernel_rfl, rfl⟩
/-- (*hemiola/timeline.line).measure -/
noncomputable def af99 : AF := ⟨66, .seq (.ops [⟨(some 6), none, .box (.t 1)⟩])
  (.seq (.ops [⟨(some 16), none, .load (some 22) (.t 6)⟩,
    ⟨(some 17), none, .call (.c (.fn (.func 176) [] [])) [(.t 16)]⟩,
    ⟨(some 15), none, .move (.t 17)⟩,
    ⟨(some 18), none, .extract 0 (.t 15)⟩,
    ⟨(some 19), none, .extract 1 (.t 15)⟩,
    ⟨(some 10), none, .move (.t 18)⟩,
    ⟨(some 11), none, .move (.t 19)⟩])
  (.seq (.ops [⟨(some 12), none, .move (.c (.sc (.bool false)))⟩])
  (.seq (.seq (.ops [⟨(some 20), none, .move (.t 10)⟩,
    ⟨(some 21), none, .len (.t 20)⟩,
    ⟨(some 22), none, .move (.c (.sc (.int .i64 (0))))⟩])
  (.block 0 (.loop (.seq (.ops [⟨(some 23), none, .bin .lss (.t 22) (.t 21)⟩])
    (.seq (.cond (.t 23)
     (.skip)
     (.exit 0))
    (.seq (.block 1 (.seq (.ops [⟨(some 24), none, .iaddrS 5 (.t 20) (.t 22)⟩,
       ⟨(some 25), none, .load (some 5) (.t 24)⟩,
       ⟨(some 14), none, .alloc [(.sc (.int .i64 (0))), (.sc (.int .i64 (0))), (.sc (.int .i64 (0))), (.sc (.int .i64 (0))), (.sc (.int .i64 (0)))]⟩,
       ⟨none, none, .store 5 (.t 14) (.t 25)⟩])
     (.seq (.ops [⟨(some 26), none, .faddr 0 (.t 14)⟩,
       ⟨(some 27), none, .load none (.t 26)⟩,
       ⟨(some 28), none, .move (.t 3)⟩,
       ⟨(some 29), none, .bin .eql (.t 27) (.t 28)⟩,
       ⟨(some 30), none, .move (.t 29)⟩,
       ⟨(some 31), (some (30, true)), .faddr 1 (.t 14)⟩,
       ⟨(some 32), (some (30, true)), .load none (.t 31)⟩,
       ⟨(some 33), (some (30, true)), .move (.t 4)⟩,
       ⟨(some 34), (some (30, true)), .bin .eql (.t 32) (.t 33)⟩,
       ⟨(some 35), none, .pick (.t 30) (.t 34) (.c (.sc (.bool false)))⟩])
     (.cond (.t 35)
      (.seq (.ops [⟨(some 12), none, .move (.c (.sc (.bool true)))⟩])
      (.draw [⟨false, [0], [], ⟨(some 36), none, .move (.t 0)⟩⟩,
        ⟨false, [6], [], ⟨(some 37), none, .faddr 21 (.t 6)⟩⟩,
        ⟨false, [37], [], ⟨(some 38), none, .load none (.t 37)⟩⟩,
        ⟨false, [3], [], ⟨(some 39), none, .move (.t 3)⟩⟩,
        ⟨false, [38, 39], [], ⟨(some 40), none, .iaddrS 2 (.t 38) (.t 39)⟩⟩,
        ⟨false, [40], [], ⟨(some 41), none, .faddr 1 (.t 40)⟩⟩,
        ⟨false, [41], [], ⟨(some 42), none, .load none (.t 41)⟩⟩,
        ⟨false, [4], [], ⟨(some 43), none, .move (.t 4)⟩⟩,
        ⟨false, [42, 43], [], ⟨(some 44), none, .iaddrS 2 (.t 42) (.t 43)⟩⟩,
        ⟨false, [44], [], ⟨(some 45), none, .faddr 0 (.t 44)⟩⟩,
        ⟨false, [45], [], ⟨(some 46), none, .load none (.t 45)⟩⟩,
        ⟨false, [14], [], ⟨(some 47), none, .faddr 2 (.t 14)⟩⟩,
        ⟨false, [47], [], ⟨(some 48), none, .load none (.t 47)⟩⟩,
        ⟨false, [46, 48], [], ⟨(some 49), none, .iaddrS 13 (.t 46) (.t 48)⟩⟩,
        ⟨false, [49], [], ⟨(some 50), none, .load (some 13) (.t 49)⟩⟩,
        ⟨false, [2], [], ⟨(some 51), none, .move (.t 2)⟩⟩,
        ⟨false, [14], [], ⟨(some 52), none, .faddr 3 (.t 14)⟩⟩,
        ⟨false, [52], [], ⟨(some 53), none, .load none (.t 52)⟩⟩,
        ⟨false, [51, 53], [], ⟨(some 54), none, .bin .add (.t 51) (.t 53)⟩⟩,
        ⟨false, [2], [], ⟨(some 55), none, .move (.t 2)⟩⟩,
        ⟨false, [14], [], ⟨(some 56), none, .faddr 4 (.t 14)⟩⟩,
        ⟨false, [56], [], ⟨(some 57), none, .load none (.t 56)⟩⟩,
        ⟨false, [55, 57], [], ⟨(some 58), none, .bin .add (.t 55) (.t 57)⟩⟩]
        [⟨(some 59), none, .call (.c (.fn (.func 177) [] [])) [(.t 36), (.t 50), (.t 54), (.t 58)]⟩]))
      (.skip)))))
    (.ops [⟨(some 60), none, .bin .add (.t 22) (.c (.sc (.int .i64 (1))))⟩,
      ⟨(some 22), none, .move (.t 60)⟩])))))))
  (.seq (.ops [⟨(some 61), none, .move (.t 12)⟩,
    ⟨(some 62), none, .un .not (.t 61)⟩])
  (.cond (.t 62)
   (.ops [⟨(some 63), none, .move (.t 0)⟩,
     ⟨(some 64), none, .nilCheck (.t 63)⟩,
     ⟨(some 65), none, .faddr 1 (.t 64)⟩,
     ⟨none, none, .store 1 (.t 65) (.c (.sc (.map none)))⟩])
   (.skip)))))),
  []⟩
theorem ok99 : EntryOk Tryz.prog 99 af99 := ⟨Tryz.f99, _, Tryz.func99, by decide, rfl, by kernel_rfl, by kernel_rfl, rfl⟩
/-- hemiola/tempo.index$1 -/
noncomputable def af104 : AF := ⟨12, .seq (.ops [⟨(some 4), none, .move (.c (.sc (.bool false)))⟩])
  (.seq (.draw [⟨false, [1], [], ⟨(some 5), none, .load none (.t 1)⟩⟩,
    ⟨false, [0], [], ⟨(some 6), none, .move (.t 0)⟩⟩,
    ⟨false, [5, 6], [], ⟨(some 7), none, .iaddrS 3 (.t 5) (.t 6)⟩⟩,
    ⟨false, [7], [], ⟨(some 8), none, .faddr 0 (.t 7)⟩⟩,
    ⟨false, [8], [], ⟨(some 9), none, .load none (.t 8)⟩⟩,
    ⟨false, [2], [], ⟨(some 10), none, .load none (.t 2)⟩⟩]
    [⟨(some 11), none, .bin .gtr (.t 9) (.t 10)⟩,
    ⟨(some 4), none, .move (.t 11)⟩])
  (.ret)),
  [.t 4]⟩
theorem ok104 : EntryOk Tryz.prog 104 af104 := ⟨Tryz.f104, _, Tryz.func104, by decide, rfl, by kernel_rfl, by kernel_rfl, rfl⟩
/-- hemiola/voice.checked -/
noncomputable def af108 : AF := ⟨31, .seq (.ops [⟨(some 2), none, .box (.t 0)⟩,
    ⟨(some 4), none, .move (.c (.sl true .full 0 []))⟩,
    ⟨(some 5), none, .move (.c (.sc (.int .i64 (0))))⟩])
  (.seq (.ops [⟨(some 9), none, .load (some 2) (.t 2)⟩,
    ⟨(some 10), none, .move (.t 1)⟩,
    ⟨(some 11), none, .call (.c (.fn (.func 184) [] [])) [(.t 9), (.t 10)]⟩,
    ⟨(some 8), none, .move (.t 11)⟩,
    ⟨(some 12), none, .extract 0 (.t 8)⟩,
    ⟨(some 13), none, .extract 1 (.t 8)⟩,
    ⟨(some 6), none, .move (.t 12)⟩,
    ⟨(some 7), none, .move (.t 13)⟩])
  (.seq (.seq (.ops [⟨(some 14), none, .move (.t 7)⟩,
    ⟨(some 15), none, .bin .eql (.t 14) (.c (.sc (.int .i64 (0))))⟩,
    ⟨(some 16), none, .move (.t 15)⟩,
    ⟨(some 17), (some (16, true)), .move (.t 6)⟩,
    ⟨(some 18), (some (16, true)), .len (.t 17)⟩,
    ⟨(some 19), (some (16, true)), .bin .gtr (.t 18) (.c (.sc (.int .i64 (0))))⟩,
    ⟨(some 20), none, .pick (.t 16) (.t 19) (.c (.sc (.bool false)))⟩,
    ⟨(some 21), none, .move (.t 20)⟩,
    ⟨(some 22), (some (21, true)), .move (.t 6)⟩,
    ⟨(some 23), (some (21, true)), .call (.c (.fn (.func 185) [] [])) [(.t 22)]⟩,
    ⟨(some 24), (some (21, true)), .move (.t 1)⟩,
    ⟨(some 25), (some (21, true)), .bin .neq (.t 23) (.t 24)⟩,
    ⟨(some 26), none, .pick (.t 21) (.t 25) (.c (.sc (.bool false)))⟩])
  (.cond (.t 26)
   (.ops [⟨(some 7), none, .move (.c (.sc (.int .i64 (20))))⟩])
   (.skip)))
  (.seq (.seq (.ops [⟨(some 27), none, .move (.t 7)⟩,
    ⟨(some 28), none, .bin .neq (.t 27) (.c (.sc (.int .i64 (0))))⟩])
  (.cond (.t 28)
   (.seq (.ops [⟨(some 29), none, .move (.t 7)⟩,
     ⟨(some 4), none, .move (.c (.sl true .full 0 []))⟩,
     ⟨(some 5), none, .move (.t 29)⟩])
   (.ret))
   (.skip)))
  (.seq (.ops [⟨(some 30), none, .move (.t 6)⟩,
    ⟨(some 4), none, .move (.t 30)⟩,
    ⟨(some 5), none, .move (.c (.sc (.int .i64 (0))))⟩])
  (.ret))))),
  [.t 4, .t 5]⟩
theorem ok108 : EntryOk Tryz.prog 108 af108 := ⟨Tryz.f108, _, Tryz.func108, by decide, rfl, by kernel_rfl, by kernel_rfl, rfl⟩
/-- hemiola/measure.Place -/
noncomputable def af113 : AF := ⟨32, .seq (.ops [⟨(some 1), none, .box (.t 0)⟩,
    ⟨(some 2), none, .alloc [(.sc (.int .i64 (0))), (.sc (.int .i64 (0))), (.sc (.int .i64 (0))), (.sc (.int .i64 (0))), (.sc (.int .i64 (0))), (.sc (.int .i64 (0))), (.sc (.int .i64 (0))), (.sc (.int .i64 (0))), (.sc (.int .i64 (0))), (.sc (.int .i64 (0)))]⟩,
    ⟨(some 3), none, .move (.c (.sc (.int .i64 (0))))⟩])
  (.seq (.ops [⟨(some 8), none, .load (some 22) (.t 1)⟩,
    ⟨(some 9), none, .call (.c (.fn (.func 53) [] [])) [(.t 8)]⟩,
    ⟨(some 7), none, .move (.t 9)⟩,
    ⟨(some 10), none, .extract 0 (.t 7)⟩,
    ⟨(some 11), none, .extract 1 (.t 7)⟩,
    ⟨(some 4), none, .move (.t 10)⟩,
    ⟨(some 5), none, .move (.t 11)⟩])
  (.seq (.seq (.ops [⟨(some 12), none, .move (.t 5)⟩,
    ⟨(some 13), none, .bin .neq (.t 12) (.c (.sc (.int .i64 (0))))⟩])
  (.cond (.t 13)
   (.seq (.ops [⟨(some 14), none, .build [(.sc (.int .i64 (0))), (.sc (.int .i64 (0))), (.sc (.int .i64 (0))), (.sc (.int .i64 (0))), (.sc (.int .i64 (0))), (.sc (.int .i64 (0))), (.sc (.int .i64 (0))), (.sc (.int .i64 (0))), (.sc (.int .i64 (0))), (.sc (.int .i64 (0)))] []⟩,
     ⟨(some 15), none, .move (.t 5)⟩,
     ⟨none, none, .store 10 (.t 2) (.t 14)⟩,
     ⟨(some 3), none, .move (.t 15)⟩])
   (.ret))
   (.skip)))
  (.seq (.ops [⟨(some 17), none, .faddr 2 (.t 1)⟩,
    ⟨(some 18), none, .load (some 8) (.t 17)⟩,
    ⟨(some 19), none, .move (.t 4)⟩,
    ⟨(some 20), none, .call (.c (.fn (.func 186) [] [])) [(.t 18), (.t 19)]⟩,
    ⟨(some 16), none, .move (.t 20)⟩,
    ⟨(some 21), none, .extract 0 (.t 16)⟩,
    ⟨(some 22), none, .extract 1 (.t 16)⟩,
    ⟨(some 6), none, .move (.t 21)⟩,
    ⟨(some 5), none, .move (.t 22)⟩])
  (.seq (.seq (.ops [⟨(some 23), none, .move (.t 5)⟩,
    ⟨(some 24), none, .bin .neq (.t 23) (.c (.sc (.int .i64 (0))))⟩])
  (.cond (.t 24)
   (.seq (.ops [⟨(some 25), none, .build [(.sc (.int .i64 (0))), (.sc (.int .i64 (0))), (.sc (.int .i64 (0))), (.sc (.int .i64 (0))), (.sc (.int .i64 (0))), (.sc (.int .i64 (0))), (.sc (.int .i64 (0))), (.sc (.int .i64 (0))), (.sc (.int .i64 (0))), (.sc (.int .i64 (0)))] []⟩,
     ⟨(some 26), none, .move (.t 5)⟩,
     ⟨none, none, .store 10 (.t 2) (.t 25)⟩,
     ⟨(some 3), none, .move (.t 26)⟩])
   (.ret))
   (.skip)))
  (.seq (.ops [⟨(some 27), none, .faddr 2 (.t 1)⟩,
    ⟨(some 28), none, .load (some 8) (.t 27)⟩,
    ⟨(some 29), none, .move (.t 6)⟩,
    ⟨(some 30), none, .move (.t 4)⟩,
    ⟨(some 31), none, .build [(.sc (.int .i64 (0))), (.sc (.int .i64 (0))), (.sc (.int .i64 (0))), (.sc (.int .i64 (0))), (.sc (.int .i64 (0))), (.sc (.int .i64 (0))), (.sc (.int .i64 (0))), (.sc (.int .i64 (0))), (.sc (.int .i64 (0))), (.sc (.int .i64 (0)))] [((0, 8), (.t 28)), ((8, 1), (.t 29)), ((9, 1), (.t 30))]⟩,
    ⟨none, none, .store 10 (.t 2) (.t 31)⟩,
    ⟨(some 3), none, .move (.c (.sc (.int .i64 (0))))⟩])
  (.ret)))))),
  [.c 2 (some 10), .t 3]⟩
theorem ok113 : EntryOk Tryz.prog 113 af113 := ⟨Tryz.f113, _, Tryz.func113, by decide, rfl, by kernel_rfl, by kernel_rfl, rfl⟩
/-- hemiola/pitch.Number -/
noncomputable def af117 : AF := ⟨12, .seq (.ops [⟨(some 1), none, .box (.t 0)⟩,
    ⟨(some 2), none, .move (.c (.sc (.int .i64 (0))))⟩,
    ⟨(some 3), none, .move (.c (.sc (.int .i64 (0))))⟩])
  (.seq (.seq (.ops [⟨(some 5), none, .load (some 3) (.t 1)⟩,
    ⟨(some 6), none, .call (.c (.fn (.func 189) [] [])) [(.t 5)]⟩,
    ⟨(some 4), none, .move (.t 6)⟩])
  (.seq (.ops [⟨(some 7), none, .move (.t 4)⟩,
    ⟨(some 8), none, .bin .neq (.t 7) (.c (.sc (.int .i64 (0))))⟩])
  (.cond (.t 8)
   (.seq (.ops [⟨(some 9), none, .move (.t 4)⟩,
     ⟨(some 2), none, .move (.c (.sc (.int .i64 (0))))⟩,
     ⟨(some 3), none, .move (.t 9)⟩])
   (.ret))
   (.skip))))
  (.seq (.ops [⟨(some 10), none, .load (some 3) (.t 1)⟩,
    ⟨(some 11), none, .call (.c (.fn (.func 190) [] [])) [(.t 10)]⟩,
    ⟨(some 2), none, .move (.t 11)⟩,
    ⟨(some 3), none, .move (.c (.sc (.int .i64 (0))))⟩])
  (.ret))),
  [.t 2, .t 3]⟩
theorem ok117 : EntryOk Tryz.prog 117 af117 := ⟨Tryz.f117, _, Tryz.func117, by decide, rfl, by kernel_rfl, by kernel_rfl, rfl⟩
/-- hemiola/ornament.semitones -/
noncomputable def af121 : AF := ⟨26, .seq (.ops [⟨(some 4), none, .move (.c (.sc (.int .i64 (0))))⟩])
  (.seq (.ops [⟨(some 7), none, .move (.t 0)⟩,
    ⟨(some 8), none, .bin .quo (.t 7) (.c (.sc (.int .i64 (7))))⟩,
    ⟨(some 9), none, .move (.t 0)⟩,
    ⟨(some 10), none, .bin .rem (.t 9) (.c (.sc (.int .i64 (7))))⟩,
    ⟨(some 5), none, .move (.t 8)⟩,
    ⟨(some 6), none, .move (.t 10)⟩])
  (.seq (.seq (.ops [⟨(some 11), none, .move (.t 6)⟩,
    ⟨(some 12), none, .bin .lss (.t 11) (.c (.sc (.int .i64 (0))))⟩])
  (.cond (.t 12)
   (.ops [⟨(some 13), none, .move (.t 5)⟩,
     ⟨(some 14), none, .bin .sub (.t 13) (.c (.sc (.int .i64 (1))))⟩,
     ⟨(some 15), none, .move (.t 6)⟩,
     ⟨(some 16), none, .bin .add (.t 15) (.c (.sc (.int .i64 (7))))⟩,
     ⟨(some 5), none, .move (.t 14)⟩,
     ⟨(some 6), none, .move (.t 16)⟩])
   (.skip)))
  (.seq (.ops [⟨(some 17), none, .move (.t 5)⟩,
    ⟨(some 18), none, .bin .add (.t 17) (.c (.sc (.int .i64 (1))))⟩,
    ⟨(some 19), none, .bin .mul (.c (.sc (.int .i64 (12)))) (.t 18)⟩,
    ⟨(some 20), none, .build [(.sc (.int .i64 (0))), (.sc (.int .i64 (0))), (.sc (.int .i64 (0))), (.sc (.int .i64 (0))), (.sc (.int .i64 (0))), (.sc (.int .i64 (0))), (.sc (.int .i64 (0)))] [((0, 1), (.c (.sc (.int .i64 (0))))), ((1, 1), (.c (.sc (.int .i64 (2))))), ((2, 1), (.c (.sc (.int .i64 (4))))), ((3, 1), (.c (.sc (.int .i64 (5))))), ((4, 1), (.c (.sc (.int .i64 (7))))), ((5, 1), (.c (.sc (.int .i64 (9))))), ((6, 1), (.c (.sc (.int .i64 (11)))))]⟩,
    ⟨(some 21), none, .move (.t 6)⟩,
    ⟨(some 22), none, .idxA 1 7 none (.t 20) (.t 21)⟩,
    ⟨(some 23), none, .bin .add (.t 19) (.t 22)⟩,
    ⟨(some 24), none, .move (.t 1)⟩,
    ⟨(some 25), none, .bin .add (.t 23) (.t 24)⟩,
    ⟨(some 4), none, .move (.t 25)⟩])
  (.ret)))),
  [.t 4]⟩
theorem ok121 : EntryOk Tryz.prog 121 af121 := ⟨Tryz.f121, _, Tryz.func121, by decide, rfl, by kernel_rfl, by kernel_rfl, rfl⟩
/-- slices.stableCmpFunc[hemiola/perform.hairpin] -/
noncomputable def af127 : AF := ⟨63, .seq (.ops [⟨(some 6), none, .move (.c (.sc (.int .i64 (20))))⟩])
  (.seq (.ops [⟨(some 10), none, .move (.t 6)⟩,
    ⟨(some 7), none, .move (.c (.sc (.int .i64 (0))))⟩,
    ⟨(some 8), none, .move (.t 10)⟩])
  (.seq (.block 0 (.loop (.seq (.seq (.ops [⟨(some 11), none, .move (.t 8)⟩,
      ⟨(some 12), none, .move (.t 1)⟩,
      ⟨(some 13), none, .bin .leq (.t 11) (.t 12)⟩])
    (.cond (.t 13)
     (.skip)
     (.exit 0)))
    (.block 1 (.seq (.ops [⟨(some 14), none, .move (.t 0)⟩,
       ⟨(some 15), none, .move (.t 7)⟩,
       ⟨(some 16), none, .move (.t 8)⟩,
       ⟨(some 17), none, .move (.t 2)⟩,
       ⟨(some 18), none, .call (.c (.fn (.func 204) [] [])) [(.t 14), (.t 15), (.t 16), (.t 17)]⟩])
     (.seq (.ops [⟨(some 19), none, .move (.t 8)⟩,
       ⟨(some 7), none, .move (.t 19)⟩])
     (.ops [⟨(some 20), none, .move (.t 8)⟩,
       ⟨(some 21), none, .move (.t 6)⟩,
       ⟨(some 22), none, .bin .add (.t 20) (.t 21)⟩,
       ⟨(some 8), none, .move (.t 22)⟩])))))))
  (.seq (.ops [⟨(some 23), none, .move (.t 0)⟩,
    ⟨(some 24), none, .move (.t 7)⟩,
    ⟨(some 25), none, .move (.t 1)⟩,
    ⟨(some 26), none, .move (.t 2)⟩,
    ⟨(some 27), none, .call (.c (.fn (.func 204) [] [])) [(.t 23), (.t 24), (.t 25), (.t 26)]⟩])
  (.block 2 (.loop (.seq (.seq (.ops [⟨(some 28), none, .move (.t 6)⟩,
      ⟨(some 29), none, .move (.t 1)⟩,
      ⟨(some 30), none, .bin .lss (.t 28) (.t 29)⟩])
    (.cond (.t 30)
     (.skip)
     (.exit 2)))
    (.block 3 (.seq (.ops [⟨(some 31), none, .move (.t 6)⟩,
       ⟨(some 32), none, .bin .mul (.c (.sc (.int .i64 (2)))) (.t 31)⟩,
       ⟨(some 7), none, .move (.c (.sc (.int .i64 (0))))⟩,
       ⟨(some 8), none, .move (.t 32)⟩])
     (.seq (.block 4 (.loop (.seq (.seq (.ops [⟨(some 33), none, .move (.t 8)⟩,
         ⟨(some 34), none, .move (.t 1)⟩,
         ⟨(some 35), none, .bin .leq (.t 33) (.t 34)⟩])
       (.cond (.t 35)
        (.skip)
        (.exit 4)))
       (.block 5 (.seq (.ops [⟨(some 36), none, .move (.t 0)⟩,
          ⟨(some 37), none, .move (.t 7)⟩,
          ⟨(some 38), none, .move (.t 7)⟩,
          ⟨(some 39), none, .move (.t 6)⟩,
          ⟨(some 40), none, .bin .add (.t 38) (.t 39)⟩,
          ⟨(some 41), none, .move (.t 8)⟩,
          ⟨(some 42), none, .move (.t 2)⟩,
          ⟨(some 43), none, .call (.c (.fn (.func 205) [] [])) [(.t 36), (.t 37), (.t 40), (.t 41), (.t 42)]⟩])
        (.seq (.ops [⟨(some 44), none, .move (.t 8)⟩,
          ⟨(some 7), none, .move (.t 44)⟩])
        (.ops [⟨(some 45), none, .move (.t 8)⟩,
          ⟨(some 46), none, .move (.t 6)⟩,
          ⟨(some 47), none, .bin .mul (.c (.sc (.int .i64 (2)))) (.t 46)⟩,
          ⟨(some 48), none, .bin .add (.t 45) (.t 47)⟩,
          ⟨(some 8), none, .move (.t 48)⟩])))))))
     (.seq (.seq (.ops [⟨(some 49), none, .move (.t 7)⟩,
       ⟨(some 50), none, .move (.t 6)⟩,
       ⟨(some 51), none, .bin .add (.t 49) (.t 50)⟩,
       ⟨(some 9), none, .move (.t 51)⟩])
     (.seq (.ops [⟨(some 52), none, .move (.t 9)⟩,
       ⟨(some 53), none, .move (.t 1)⟩,
       ⟨(some 54), none, .bin .lss (.t 52) (.t 53)⟩])
     (.cond (.t 54)
      (.ops [⟨(some 55), none, .move (.t 0)⟩,
        ⟨(some 56), none, .move (.t 7)⟩,
        ⟨(some 57), none, .move (.t 9)⟩,
        ⟨(some 58), none, .move (.t 1)⟩,
        ⟨(some 59), none, .move (.t 2)⟩,
        ⟨(some 60), none, .call (.c (.fn (.func 205) [] [])) [(.t 55), (.t 56), (.t 57), (.t 58), (.t 59)]⟩])
      (.skip))))
     (.ops [⟨(some 61), none, .move (.t 6)⟩,
       ⟨(some 62), none, .bin .mul (.t 61) (.c (.sc (.int .i64 (2))))⟩,
       ⟨(some 6), none, .move (.t 62)⟩]))))))))))),
  []⟩
theorem ok127 : EntryOk Tryz.prog 127 af127 := ⟨Tryz.f127, _, Tryz.func127, by decide, rfl, by kernel_rfl, by kernel_rfl, rfl⟩
/-- hemiola/interval.Check -/
noncomputable def af132 : AF := ⟨21, .seq (.ops [⟨(some 1), none, .box (.t 0)⟩,
    ⟨(some 2), none, .move (.c (.sc (.int .i64 (0))))⟩])
  (.seq (.seq (.ops [⟨(some 3), none, .faddr 0 (.t 1)⟩,
    ⟨(some 4), none, .load none (.t 3)⟩,
    ⟨(some 5), none, .bin .lss (.t 4) (.c (.sc (.int .i64 (-77))))⟩,
    ⟨(some 6), none, .move (.t 5)⟩,
    ⟨(some 7), (some (6, false)), .faddr 0 (.t 1)⟩,
    ⟨(some 8), (some (6, false)), .load none (.t 7)⟩,
    ⟨(some 9), (some (6, false)), .bin .gtr (.t 8) (.c (.sc (.int .i64 (77))))⟩,
    ⟨(some 10), none, .pick (.t 6) (.c (.sc (.bool true))) (.t 9)⟩,
    ⟨(some 11), none, .move (.t 10)⟩,
    ⟨(some 12), (some (11, false)), .faddr 1 (.t 1)⟩,
    ⟨(some 13), (some (11, false)), .load none (.t 12)⟩,
    ⟨(some 14), (some (11, false)), .bin .lss (.t 13) (.c (.sc (.int .i64 (-140))))⟩,
    ⟨(some 15), none, .pick (.t 11) (.c (.sc (.bool true))) (.t 14)⟩,
    ⟨(some 16), none, .move (.t 15)⟩,
    ⟨(some 17), (some (16, false)), .faddr 1 (.t 1)⟩,
    ⟨(some 18), (some (16, false)), .load none (.t 17)⟩,
    ⟨(some 19), (some (16, false)), .bin .gtr (.t 18) (.c (.sc (.int .i64 (140))))⟩,
    ⟨(some 20), none, .pick (.t 16) (.c (.sc (.bool true))) (.t 19)⟩])
  (.cond (.t 20)
   (.seq (.ops [⟨(some 2), none, .move (.c (.sc (.int .i64 (2))))⟩])
   (.ret))
   (.skip)))
  (.seq (.ops [⟨(some 2), none, .move (.c (.sc (.int .i64 (0))))⟩])
  (.ret))),
  [.t 2]⟩
theorem ok132 : EntryOk Tryz.prog 132 af132 := ⟨Tryz.f132, _, Tryz.func132, by decide, rfl, by kernel_rfl, by kernel_rfl, rfl⟩
/-- (*hemiola/check.checker).measures -/
noncomputable def af136 : AF := ⟨26, .seq (.ops [⟨(some 6), none, .move (.t 0)⟩,
    ⟨(some 7), none, .nilCheck (.t 6)⟩,
    ⟨(some 8), none, .faddr 0 (.t 7)⟩,
    ⟨(some 9), none, .faddr 3 (.t 8)⟩,
    ⟨(some 10), none, .load none (.t 9)⟩,
    ⟨(some 11), none, .len (.t 10)⟩,
    ⟨(some 12), none, .move (.c (.sc (.int .i64 (0))))⟩])
  (.block 0 (.loop (.seq (.ops [⟨(some 13), none, .bin .lss (.t 12) (.t 11)⟩])
    (.seq (.cond (.t 13)
     (.skip)
     (.exit 0))
    (.seq (.block 1 (.seq (.ops [⟨(some 14), none, .move (.t 12)⟩,
       ⟨(some 15), none, .iaddrS 22 (.t 10) (.t 12)⟩,
       ⟨(some 16), none, .load (some 22) (.t 15)⟩,
       ⟨(some 5), none, .alloc [(.sc (.int .i64 (0))), (.sc (.int .i64 (0))), (.sc (.int .i64 (0))), (.sc (.int .i64 (0))), (.sc (.int .i64 (0))), (.sc (.int .i64 (0))), (.sc (.int .i64 (0))), (.sc (.int .i64 (0))), (.sc (.int .i64 (0))), (.sc (.int .i64 (0))), (.sc (.int .i64 (0))), (.sc (.int .i64 (0))), (.sc (.bool false)), (.sc (.int .i64 (0))), (.sc (.int .i64 (0))), (.sc (.int .i64 (0))), (.sc (.int .i64 (0))), (.sc (.int .i64 (0))), (.sc (.int .i64 (0))), (.sc (.string ⟨#[]⟩)), (.sl true .full 0 []), (.sl true .full 0 [])]⟩,
       ⟨(some 4), none, .move (.t 14)⟩,
       ⟨none, none, .store 22 (.t 5) (.t 16)⟩])
     (.draw [⟨false, [0], [], ⟨(some 17), none, .move (.t 0)⟩⟩,
       ⟨false, [1], [], ⟨(some 18), none, .move (.t 1)⟩⟩,
       ⟨false, [4], [], ⟨(some 19), none, .move (.t 4)⟩⟩,
       ⟨false, [5], [], ⟨(some 20), none, .load (some 22) (.t 5)⟩⟩,
       ⟨true, [18, 19, 20], [], ⟨(some 21), none, .call (.t 18) [(.t 19), (.t 20)]⟩⟩,
       ⟨false, [5], [], ⟨(some 22), none, .faddr 0 (.t 5)⟩⟩,
       ⟨false, [22], [4], ⟨(some 23), none, .load (some 2) (.t 22)⟩⟩]
       [⟨(some 24), none, .call (.c (.fn (.func 129) [] [])) [(.t 17), (.t 21), (.t 23)]⟩])))
    (.ops [⟨(some 25), none, .bin .add (.t 12) (.c (.sc (.int .i64 (1))))⟩,
      ⟨(some 12), none, .move (.t 25)⟩])))))),
  []⟩
theorem ok136 : EntryOk Tryz.prog 136 af136 := ⟨Tryz.f136, _, Tryz.func136, by decide, rfl, by kernel_rfl, by kernel_rfl, rfl⟩
/-- (*hemiola/check.checker).metres$1 -/
noncomputable def af140 : AF := ⟨55, .seq (.ops [⟨(some 4), none, .box (.t 1)⟩,
    ⟨(some 5), none, .move (.c (.sc (.bool false)))⟩])
  (.seq (.ops [⟨(some 12), none, .load (some 22) (.t 4)⟩,
    ⟨(some 13), none, .call (.c (.fn (.func 53) [] [])) [(.t 12)]⟩,
    ⟨(some 11), none, .move (.t 13)⟩,
    ⟨(some 14), none, .extract 0 (.t 11)⟩,
    ⟨(some 15), none, .extract 1 (.t 11)⟩,
    ⟨(some 6), none, .move (.t 14)⟩,
    ⟨(some 7), none, .move (.t 15)⟩])
  (.seq (.ops [⟨(some 16), none, .move (.t 7)⟩,
    ⟨(some 17), none, .bin .neq (.t 16) (.c (.sc (.int .i64 (0))))⟩,
    ⟨(some 18), none, .move (.t 17)⟩,
    ⟨(some 19), (some (18, false)), .faddr 11 (.t 4)⟩,
    ⟨(some 20), (some (18, false)), .load none (.t 19)⟩,
    ⟨(some 21), (some (18, false)), .call (.c (.fn (.func 131) [] [])) [(.t 20), (.c (.sc (.int .i64 (-7)))), (.c (.sc (.int .i64 (7))))]⟩,
    ⟨(some 22), (some (18, false)), .un .not (.t 21)⟩,
    ⟨(some 23), none, .pick (.t 18) (.c (.sc (.bool true))) (.t 22)⟩,
    ⟨(some 8), none, .move (.t 23)⟩])
  (.seq (.seq (.ops [⟨(some 24), none, .load none (.t 2)⟩,
    ⟨(some 25), none, .nilCheck (.t 24)⟩,
    ⟨(some 26), none, .faddr 0 (.t 25)⟩,
    ⟨(some 27), none, .faddr 2 (.t 26)⟩,
    ⟨(some 28), none, .load none (.t 27)⟩,
    ⟨(some 29), none, .len (.t 28)⟩,
    ⟨(some 30), none, .move (.c (.sc (.int .i64 (0))))⟩])
  (.block 0 (.loop (.seq (.ops [⟨(some 31), none, .bin .lss (.t 30) (.t 29)⟩])
    (.seq (.cond (.t 31)
     (.skip)
     (.exit 0))
    (.seq (.block 1 (.seq (.ops [⟨(some 32), none, .iaddrS 6 (.t 28) (.t 30)⟩,
       ⟨(some 33), none, .load (some 6) (.t 32)⟩,
       ⟨(some 10), none, .alloc [(.sc (.int .i64 (0))), (.sc (.int .i64 (0))), (.sc (.string ⟨#[]⟩)), (.sc (.int .i64 (0))), (.sc (.int .i64 (0))), (.sl true .full 0 [])]⟩,
       ⟨none, none, .store 6 (.t 10) (.t 33)⟩])
     (.seq (.ops [⟨(some 34), none, .load none (.t 2)⟩,
       ⟨(some 35), none, .nilCheck (.t 34)⟩,
       ⟨(some 36), none, .faddr 0 (.t 35)⟩,
       ⟨(some 37), none, .faddr 1 (.t 36)⟩,
       ⟨(some 38), none, .load none (.t 37)⟩,
       ⟨(some 39), none, .move (.t 38)⟩,
       ⟨(some 40), (some (39, true)), .move (.t 8)⟩,
       ⟨(some 41), (some (39, true)), .un .not (.t 40)⟩,
       ⟨(some 42), none, .pick (.t 39) (.t 41) (.c (.sc (.bool false)))⟩])
     (.cond (.t 42)
      (.seq (.ops [⟨(some 44), none, .faddr 11 (.t 4)⟩,
        ⟨(some 45), none, .load none (.t 44)⟩,
        ⟨(some 46), none, .faddr 3 (.t 10)⟩,
        ⟨(some 47), none, .load (some 2) (.t 46)⟩,
        ⟨(some 48), none, .call (.c (.fn (.func 111) [] [])) [(.t 45), (.t 47)]⟩,
        ⟨(some 43), none, .move (.t 48)⟩,
        ⟨(some 49), none, .extract 0 (.t 43)⟩,
        ⟨(some 50), none, .extract 1 (.t 43)⟩,
        ⟨(some 7), none, .move (.t 50)⟩])
      (.ops [⟨(some 51), none, .move (.t 7)⟩,
        ⟨(some 52), none, .bin .neq (.t 51) (.c (.sc (.int .i64 (0))))⟩,
        ⟨(some 8), none, .move (.t 52)⟩]))
      (.skip)))))
    (.ops [⟨(some 53), none, .bin .add (.t 30) (.c (.sc (.int .i64 (1))))⟩,
      ⟨(some 30), none, .move (.t 53)⟩])))))))
  (.seq (.ops [⟨(some 54), none, .move (.t 8)⟩,
    ⟨(some 5), none, .move (.t 54)⟩])
  (.ret))))),
  [.t 5]⟩
theorem ok140 : EntryOk Tryz.prog 140 af140 := ⟨Tryz.f140, _, Tryz.func140, by decide, rfl, by kernel_rfl, by kernel_rfl, rfl⟩
/-- (*hemiola/check.checker).each -/
noncomputable def af144 : AF := ⟨63, .seq (.ops [⟨(some 12), none, .move (.t 0)⟩,
    ⟨(some 13), none, .nilCheck (.t 12)⟩,
    ⟨(some 14), none, .faddr 0 (.t 13)⟩,
    ⟨(some 15), none, .faddr 3 (.t 14)⟩,
    ⟨(some 16), none, .load none (.t 15)⟩,
    ⟨(some 17), none, .len (.t 16)⟩,
    ⟨(some 18), none, .move (.c (.sc (.int .i64 (0))))⟩])
  (.block 0 (.loop (.seq (.ops [⟨(some 19), none, .bin .lss (.t 18) (.t 17)⟩])
    (.seq (.cond (.t 19)
     (.skip)
     (.exit 0))
    (.seq (.block 1 (.seq (.ops [⟨(some 20), none, .move (.t 18)⟩,
       ⟨(some 21), none, .iaddrS 22 (.t 16) (.t 18)⟩,
       ⟨(some 22), none, .load (some 22) (.t 21)⟩,
       ⟨(some 5), none, .alloc [(.sc (.int .i64 (0))), (.sc (.int .i64 (0))), (.sc (.int .i64 (0))), (.sc (.int .i64 (0))), (.sc (.int .i64 (0))), (.sc (.int .i64 (0))), (.sc (.int .i64 (0))), (.sc (.int .i64 (0))), (.sc (.int .i64 (0))), (.sc (.int .i64 (0))), (.sc (.int .i64 (0))), (.sc (.int .i64 (0))), (.sc (.bool false)), (.sc (.int .i64 (0))), (.sc (.int .i64 (0))), (.sc (.int .i64 (0))), (.sc (.int .i64 (0))), (.sc (.int .i64 (0))), (.sc (.int .i64 (0))), (.sc (.string ⟨#[]⟩)), (.sl true .full 0 []), (.sl true .full 0 [])]⟩,
       ⟨(some 4), none, .move (.t 20)⟩,
       ⟨none, none, .store 22 (.t 5) (.t 22)⟩])
     (.seq (.ops [⟨(some 23), none, .faddr 21 (.t 5)⟩,
       ⟨(some 24), none, .load none (.t 23)⟩,
       ⟨(some 25), none, .len (.t 24)⟩,
       ⟨(some 26), none, .move (.c (.sc (.int .i64 (0))))⟩])
     (.block 2 (.loop (.seq (.ops [⟨(some 27), none, .bin .lss (.t 26) (.t 25)⟩])
       (.seq (.cond (.t 27)
        (.skip)
        (.exit 2))
       (.seq (.block 3 (.seq (.ops [⟨(some 28), none, .move (.t 26)⟩,
          ⟨(some 29), none, .iaddrS 2 (.t 24) (.t 26)⟩,
          ⟨(some 30), none, .load (some 2) (.t 29)⟩,
          ⟨(some 7), none, .alloc [(.sl true .full 0 []), (.sl true .full 0 [])]⟩,
          ⟨(some 6), none, .move (.t 28)⟩,
          ⟨none, none, .store 2 (.t 7) (.t 30)⟩])
        (.seq (.ops [⟨(some 31), none, .faddr 1 (.t 7)⟩,
          ⟨(some 32), none, .load none (.t 31)⟩,
          ⟨(some 33), none, .len (.t 32)⟩,
          ⟨(some 34), none, .move (.c (.sc (.int .i64 (0))))⟩])
        (.block 4 (.loop (.seq (.ops [⟨(some 35), none, .bin .lss (.t 34) (.t 33)⟩])
          (.seq (.cond (.t 35)
           (.skip)
           (.exit 4))
          (.seq (.block 5 (.seq (.ops [⟨(some 36), none, .move (.t 34)⟩,
             ⟨(some 37), none, .iaddrS 2 (.t 32) (.t 34)⟩,
             ⟨(some 38), none, .load (some 2) (.t 37)⟩,
             ⟨(some 9), none, .alloc [(.sl true .full 0 []), (.sl true .full 0 [])]⟩,
             ⟨(some 8), none, .move (.t 36)⟩,
             ⟨none, none, .store 2 (.t 9) (.t 38)⟩])
           (.seq (.ops [⟨(some 39), none, .faddr 0 (.t 9)⟩,
             ⟨(some 40), none, .load none (.t 39)⟩,
             ⟨(some 41), none, .len (.t 40)⟩,
             ⟨(some 42), none, .move (.c (.sc (.int .i64 (0))))⟩])
           (.block 6 (.loop (.seq (.ops [⟨(some 43), none, .bin .lss (.t 42) (.t 41)⟩])
             (.seq (.cond (.t 43)
              (.skip)
              (.exit 6))
             (.seq (.block 7 (.seq (.ops [⟨(some 44), none, .move (.t 42)⟩,
                ⟨(some 45), none, .iaddrS 13 (.t 40) (.t 42)⟩,
                ⟨(some 46), none, .load (some 13) (.t 45)⟩,
                ⟨(some 11), none, .alloc [(.sc (.int .i64 (0))), (.sc (.int .i64 (0))), (.sc (.int .i64 (0))), (.sc (.int .i64 (0))), (.sc (.int .i64 (0))), (.sl true .full 0 []), (.sl true .full 0 []), (.sc (.int .i64 (0))), (.sc (.int .i64 (0))), (.sc (.int .i64 (0))), (.sl true .full 0 []), (.sc (.int .i64 (0))), (.sc (.int .i64 (0)))]⟩,
                ⟨(some 10), none, .move (.t 44)⟩,
                ⟨none, none, .store 13 (.t 11) (.t 46)⟩])
              (.draw [⟨false, [0], [], ⟨(some 47), none, .move (.t 0)⟩⟩,
                ⟨false, [1], [], ⟨(some 48), none, .move (.t 1)⟩⟩,
                ⟨false, [6], [], ⟨(some 49), none, .move (.t 6)⟩⟩,
                ⟨false, [4], [], ⟨(some 50), none, .move (.t 4)⟩⟩,
                ⟨false, [8], [], ⟨(some 51), none, .move (.t 8)⟩⟩,
                ⟨false, [10], [], ⟨(some 52), none, .move (.t 10)⟩⟩,
                ⟨false, [49, 50, 51, 52], [], ⟨(some 53), none, .build [(.sc (.int .i64 (0))), (.sc (.int .i64 (0))), (.sc (.int .i64 (0))), (.sc (.int .i64 (0))), (.sc (.int .i64 (0))), (.sc (.int .i64 (0))), (.sc (.int .i64 (0)))] [((0, 1), (.c (.sc (.int .i64 (4))))), ((2, 1), (.t 49)), ((3, 1), (.t 50)), ((4, 1), (.t 51)), ((5, 1), (.t 52))]⟩⟩,
                ⟨false, [11], [], ⟨(some 54), none, .load (some 13) (.t 11)⟩⟩,
                ⟨true, [48, 53, 54], [], ⟨(some 55), none, .call (.t 48) [(.t 53), (.t 54)]⟩⟩,
                ⟨false, [11], [], ⟨(some 56), none, .faddr 0 (.t 11)⟩⟩,
                ⟨false, [56], [8], ⟨(some 57), none, .load (some 2) (.t 56)⟩⟩]
                [⟨(some 58), none, .call (.c (.fn (.func 129) [] [])) [(.t 47), (.t 55), (.t 57)]⟩])))
             (.ops [⟨(some 59), none, .bin .add (.t 42) (.c (.sc (.int .i64 (1))))⟩,
               ⟨(some 42), none, .move (.t 59)⟩])))))))))
          (.ops [⟨(some 60), none, .bin .add (.t 34) (.c (.sc (.int .i64 (1))))⟩,
            ⟨(some 34), none, .move (.t 60)⟩])))))))))
       (.ops [⟨(some 61), none, .bin .add (.t 26) (.c (.sc (.int .i64 (1))))⟩,
         ⟨(some 26), none, .move (.t 61)⟩])))))))))
    (.ops [⟨(some 62), none, .bin .add (.t 18) (.c (.sc (.int .i64 (1))))⟩,
      ⟨(some 18), none, .move (.t 62)⟩])))))),
  []⟩
theorem ok144 : EntryOk Tryz.prog 144 af144 := ⟨Tryz.f144, _, Tryz.func144, by decide, rfl, by kernel_rfl, by kernel_rfl, rfl⟩
/-- (*hemiola/check.checker).pitches$1$1 -/
noncomputable def af148 : AF := ⟨16, .seq (.ops [⟨(some 2), none, .box (.t 0)⟩,
    ⟨(some 3), none, .move (.c (.sc (.bool false)))⟩])
  (.seq (.ops [⟨(some 7), none, .load (some 3) (.t 2)⟩,
    ⟨(some 8), none, .call (.c (.fn (.func 117) [] [])) [(.t 7)]⟩,
    ⟨(some 6), none, .move (.t 8)⟩,
    ⟨(some 9), none, .extract 0 (.t 6)⟩,
    ⟨(some 10), none, .extract 1 (.t 6)⟩,
    ⟨(some 4), none, .move (.t 9)⟩,
    ⟨(some 5), none, .move (.t 10)⟩])
  (.seq (.ops [⟨(some 11), none, .move (.t 4)⟩,
    ⟨(some 12), none, .load none (.t 1)⟩,
    ⟨(some 13), none, .bin .add (.t 11) (.t 12)⟩,
    ⟨(some 14), none, .call (.c (.fn (.func 131) [] [])) [(.t 13), (.c (.sc (.int .i64 (0)))), (.c (.sc (.int .i64 (127))))]⟩,
    ⟨(some 15), none, .un .not (.t 14)⟩,
    ⟨(some 3), none, .move (.t 15)⟩])
  (.ret))),
  [.t 3]⟩
theorem ok148 : EntryOk Tryz.prog 148 af148 := ⟨Tryz.f148, _, Tryz.func148, by decide, rfl, by kernel_rfl, by kernel_rfl, rfl⟩
/-- (*hemiola/check.checker).ties$1 -/
noncomputable def af153 : AF := ⟨39, .seq (.ops [⟨(some 3), none, .box (.t 0)⟩,
    ⟨(some 4), none, .box (.t 1)⟩,
    ⟨(some 5), none, .move (.c (.sc (.bool false)))⟩])
  (.seq (.seq (.ops [⟨(some 10), none, .load (some 13) (.t 4)⟩,
    ⟨(some 11), none, .call (.c (.fn (.func 154) [] [])) [(.t 10)]⟩,
    ⟨(some 12), none, .un .not (.t 11)⟩])
  (.cond (.t 12)
   (.seq (.ops [⟨(some 5), none, .move (.c (.sc (.bool false)))⟩])
   (.ret))
   (.skip)))
  (.seq (.draw [⟨false, [2], [], ⟨(some 14), none, .load none (.t 2)⟩⟩,
    ⟨false, [14], [], ⟨(some 15), none, .nilCheck (.t 14)⟩⟩,
    ⟨false, [15], [], ⟨(some 16), none, .faddr 0 (.t 15)⟩⟩,
    ⟨false, [16], [], ⟨(some 17), none, .load (some 6) (.t 16)⟩⟩,
    ⟨false, [3], [], ⟨(some 18), none, .load (some 7) (.t 3)⟩⟩,
    ⟨true, [17, 18], [], ⟨(some 19), none, .call (.c (.fn (.func 155) [] [])) [(.t 17), (.t 18)]⟩⟩,
    ⟨false, [19], [], ⟨(some 13), none, .move (.t 19)⟩⟩,
    ⟨false, [13], [], ⟨(some 20), none, .extract 0 (.t 13)⟩⟩,
    ⟨false, [13], [], ⟨(some 21), none, .extract 1 (.t 13)⟩⟩,
    ⟨false, [], [5], ⟨(some 6), none, .alloc [(.sc (.int .i64 (0))), (.sc (.int .i64 (0))), (.sc (.int .i64 (0))), (.sc (.int .i64 (0))), (.sc (.int .i64 (0))), (.sc (.int .i64 (0))), (.sc (.int .i64 (0)))]⟩⟩,
    ⟨true, [6, 20], [], ⟨none, none, .store 7 (.t 6) (.t 20)⟩⟩]
    [⟨(some 7), none, .move (.t 21)⟩])
  (.seq (.draw [⟨false, [2], [], ⟨(some 23), none, .load none (.t 2)⟩⟩,
    ⟨false, [23], [], ⟨(some 24), none, .nilCheck (.t 23)⟩⟩,
    ⟨false, [24], [], ⟨(some 25), none, .faddr 0 (.t 24)⟩⟩,
    ⟨false, [25], [], ⟨(some 26), none, .load (some 6) (.t 25)⟩⟩,
    ⟨false, [6], [], ⟨(some 27), none, .load (some 7) (.t 6)⟩⟩,
    ⟨true, [26, 27], [], ⟨(some 28), none, .call (.c (.fn (.func 156) [] [])) [(.t 26), (.t 27)]⟩⟩,
    ⟨false, [28], [], ⟨(some 22), none, .move (.t 28)⟩⟩,
    ⟨false, [22], [], ⟨(some 29), none, .extract 0 (.t 22)⟩⟩,
    ⟨false, [22], [], ⟨(some 30), none, .extract 1 (.t 22)⟩⟩,
    ⟨false, [], [5], ⟨(some 8), none, .alloc [(.sc (.int .i64 (0))), (.sc (.int .i64 (0))), (.sc (.int .i64 (0))), (.sc (.int .i64 (0))), (.sc (.int .i64 (0))), (.sl true .full 0 []), (.sl true .full 0 []), (.sc (.int .i64 (0))), (.sc (.int .i64 (0))), (.sc (.int .i64 (0))), (.sl true .full 0 []), (.sc (.int .i64 (0))), (.sc (.int .i64 (0)))]⟩⟩,
    ⟨true, [8, 29], [], ⟨none, none, .store 13 (.t 8) (.t 29)⟩⟩]
    [⟨(some 9), none, .move (.t 30)⟩])
  (.seq (.ops [⟨(some 31), none, .move (.t 7)⟩,
    ⟨(some 32), none, .un .not (.t 31)⟩,
    ⟨(some 33), none, .move (.t 32)⟩,
    ⟨(some 34), (some (33, false)), .load (some 13) (.t 4)⟩,
    ⟨(some 35), (some (33, false)), .load (some 13) (.t 8)⟩,
    ⟨(some 36), (some (33, false)), .call (.c (.fn (.func 157) [] [])) [(.t 34), (.t 35)]⟩,
    ⟨(some 37), (some (33, false)), .un .not (.t 36)⟩,
    ⟨(some 38), none, .pick (.t 33) (.c (.sc (.bool true))) (.t 37)⟩,
    ⟨(some 5), none, .move (.t 38)⟩])
  (.ret))))),
  [.t 5]⟩
theorem ok153 : EntryOk Tryz.prog 153 af153 := ⟨Tryz.f153, _, Tryz.func153, by decide, rfl, by kernel_rfl, by kernel_rfl, rfl⟩
/-- (*hemiola/check.checker).lyrics$1 -/
noncomputable def af159 : AF := ⟨9, .seq (.ops [⟨(some 3), none, .box (.t 0)⟩,
    ⟨(some 4), none, .box (.t 1)⟩,
    ⟨(some 5), none, .move (.c (.sc (.bool false)))⟩])
  (.seq (.ops [⟨(some 6), none, .load none (.t 2)⟩,
    ⟨(some 7), none, .load (some 7) (.t 3)⟩,
    ⟨(some 8), none, .lookup [.i, .i, .i, .i, .i, .i, .i] true (.sc (.bool false)) (.t 6) (.t 7) false⟩,
    ⟨(some 5), none, .move (.t 8)⟩])
  (.ret)),
  [.t 5]⟩
theorem ok159 : EntryOk Tryz.prog 159 af159 := ⟨Tryz.f159, _, Tryz.func159, by decide, rfl, by kernel_rfl, by kernel_rfl, rfl⟩
/-- (*hemiola/check.checker).jumps$1 -/
noncomputable def af165 : AF := ⟨55, .seq (.ops [⟨(some 4), none, .box (.t 1)⟩,
    ⟨(some 5), none, .move (.c (.sc (.bool false)))⟩])
  (.seq (.seq (.ops [⟨(some 7), none, .faddr 15 (.t 4)⟩,
    ⟨(some 8), none, .load none (.t 7)⟩,
    ⟨(some 9), none, .call (.c (.fn (.func 131) [] [])) [(.t 8), (.c (.sc (.int .i64 (0)))), (.c (.sc (.int .i64 (6))))]⟩,
    ⟨(some 10), none, .un .not (.t 9)⟩,
    ⟨(some 11), none, .move (.t 10)⟩,
    ⟨(some 12), (some (11, false)), .faddr 16 (.t 4)⟩,
    ⟨(some 13), (some (11, false)), .load none (.t 12)⟩,
    ⟨(some 14), (some (11, false)), .call (.c (.fn (.func 131) [] [])) [(.t 13), (.c (.sc (.int .i64 (0)))), (.c (.sc (.int .i64 (15))))]⟩,
    ⟨(some 15), (some (11, false)), .un .not (.t 14)⟩,
    ⟨(some 16), none, .pick (.t 11) (.c (.sc (.bool true))) (.t 15)⟩,
    ⟨(some 17), none, .move (.t 16)⟩,
    ⟨(some 18), (some (17, false)), .faddr 15 (.t 4)⟩,
    ⟨(some 19), (some (17, false)), .load none (.t 18)⟩,
    ⟨(some 20), (some (17, false)), .bin .neq (.t 19) (.c (.sc (.int .i64 (0))))⟩,
    ⟨(some 21), (some (17, false)), .move (.t 20)⟩,
    ⟨(some 22), (some (21, false)), .faddr 16 (.t 4)⟩,
    ⟨(some 23), (some (21, false)), .load none (.t 22)⟩,
    ⟨(some 24), (some (21, false)), .bin .neq (.t 23) (.c (.sc (.int .i64 (0))))⟩,
    ⟨(some 25), (some (17, false)), .pick (.t 21) (.c (.sc (.bool true))) (.t 24)⟩,
    ⟨(some 26), (some (17, false)), .move (.t 25)⟩,
    ⟨(some 27), (some (26, true)), .faddr 13 (.t 4)⟩,
    ⟨(some 28), (some (26, true)), .load none (.t 27)⟩,
    ⟨(some 29), (some (26, true)), .bin .neq (.t 28) (.c (.sc (.int .i64 (0))))⟩,
    ⟨(some 30), (some (26, true)), .move (.t 29)⟩,
    ⟨(some 31), (some (30, false)), .faddr 14 (.t 4)⟩,
    ⟨(some 32), (some (30, false)), .load none (.t 31)⟩,
    ⟨(some 33), (some (30, false)), .bin .neq (.t 32) (.c (.sc (.int .i64 (0))))⟩,
    ⟨(some 34), (some (26, true)), .pick (.t 30) (.c (.sc (.bool true))) (.t 33)⟩,
    ⟨(some 35), (some (17, false)), .pick (.t 26) (.t 34) (.c (.sc (.bool false)))⟩,
    ⟨(some 36), none, .pick (.t 17) (.c (.sc (.bool true))) (.t 35)⟩])
  (.cond (.t 36)
   (.seq (.ops [⟨(some 5), none, .move (.c (.sc (.bool true)))⟩])
   (.ret))
   (.skip)))
  (.seq (.ops [⟨(some 37), none, .mkFn (.func 166) [] [(.t 4)]⟩,
    ⟨(some 6), none, .move (.t 37)⟩])
  (.seq (.ops [⟨(some 38), none, .load none (.t 2)⟩,
    ⟨(some 39), none, .nilCheck (.t 38)⟩,
    ⟨(some 40), none, .faddr 0 (.t 39)⟩,
    ⟨(some 41), none, .faddr 3 (.t 40)⟩,
    ⟨(some 42), none, .load none (.t 41)⟩,
    ⟨(some 43), none, .move (.t 0)⟩,
    ⟨(some 44), none, .slSl 22 (.t 42) none (some (.t 43)) none⟩,
    ⟨(some 45), none, .move (.t 6)⟩,
    ⟨(some 46), none, .call (.c (.fn (.func 167) [] [])) [(.t 44), (.t 45)]⟩,
    ⟨(some 47), none, .move (.t 46)⟩,
    ⟨(some 48), (some (47, false)), .load none (.t 2)⟩,
    ⟨(some 49), (some (47, false)), .faddr 15 (.t 4)⟩,
    ⟨(some 50), (some (47, false)), .load none (.t 49)⟩,
    ⟨(some 51), (some (47, false)), .move (.t 0)⟩,
    ⟨(some 52), (some (47, false)), .call (.c (.fn (.func 168) [] [])) [(.t 48), (.t 50), (.t 51)]⟩,
    ⟨(some 53), (some (47, false)), .un .not (.t 52)⟩,
    ⟨(some 54), none, .pick (.t 47) (.c (.sc (.bool true))) (.t 53)⟩,
    ⟨(some 5), none, .move (.t 54)⟩])
  (.ret)))),
  [.t 5]⟩
theorem ok165 : EntryOk Tryz.prog 165 af165 := ⟨Tryz.f165, _, Tryz.func165, by decide, rfl, by kernel_rfl, by kernel_rfl, rfl⟩
/-- (*hemiola/check.checker).margins$1 -/
noncomputable def af170 : AF := ⟨82, .seq (.ops [⟨(some 3), none, .box (.t 0)⟩,
    ⟨(some 4), none, .box (.t 1)⟩,
    ⟨(some 5), none, .move (.c (.sc (.bool false)))⟩])
  (.seq (.draw [⟨false, [2], [], ⟨(some 11), none, .load none (.t 2)⟩⟩,
    ⟨false, [11], [], ⟨(some 12), none, .nilCheck (.t 11)⟩⟩,
    ⟨false, [12], [], ⟨(some 13), none, .faddr 0 (.t 12)⟩⟩,
    ⟨false, [13], [], ⟨(some 14), none, .load (some 6) (.t 13)⟩⟩,
    ⟨false, [3], [], ⟨(some 15), none, .load (some 7) (.t 3)⟩⟩,
    ⟨true, [14, 15], [], ⟨(some 16), none, .call (.c (.fn (.func 155) [] [])) [(.t 14), (.t 15)]⟩⟩,
    ⟨false, [16], [], ⟨(some 10), none, .move (.t 16)⟩⟩,
    ⟨false, [10], [], ⟨(some 17), none, .extract 0 (.t 10)⟩⟩,
    ⟨false, [10], [], ⟨(some 18), none, .extract 1 (.t 10)⟩⟩,
    ⟨false, [], [5], ⟨(some 6), none, .alloc [(.sc (.int .i64 (0))), (.sc (.int .i64 (0))), (.sc (.int .i64 (0))), (.sc (.int .i64 (0))), (.sc (.int .i64 (0))), (.sc (.int .i64 (0))), (.sc (.int .i64 (0)))]⟩⟩,
    ⟨true, [6, 17], [], ⟨none, none, .store 7 (.t 6) (.t 17)⟩⟩]
    [⟨(some 7), none, .move (.t 18)⟩])
  (.seq (.seq (.ops [⟨(some 19), none, .move (.t 7)⟩,
    ⟨(some 20), none, .un .not (.t 19)⟩,
    ⟨(some 21), none, .move (.t 20)⟩,
    ⟨(some 22), (some (21, false)), .load (some 13) (.t 4)⟩,
    ⟨(some 23), (some (21, false)), .call (.c (.fn (.func 154) [] [])) [(.t 22)]⟩,
    ⟨(some 24), (some (21, false)), .un .not (.t 23)⟩,
    ⟨(some 25), none, .pick (.t 21) (.c (.sc (.bool true))) (.t 24)⟩,
    ⟨(some 26), none, .move (.t 25)⟩,
    ⟨(some 27), (some (26, false)), .faddr 3 (.t 6)⟩,
    ⟨(some 28), (some (26, false)), .load none (.t 27)⟩,
    ⟨(some 29), (some (26, false)), .faddr 3 (.t 3)⟩,
    ⟨(some 30), (some (26, false)), .load none (.t 29)⟩,
    ⟨(some 31), (some (26, false)), .bin .eql (.t 28) (.t 30)⟩,
    ⟨(some 32), none, .pick (.t 26) (.c (.sc (.bool true))) (.t 31)⟩])
  (.cond (.t 32)
   (.seq (.ops [⟨(some 5), none, .move (.c (.sc (.bool false)))⟩])
   (.ret))
   (.skip)))
  (.seq (.draw [⟨false, [2], [], ⟨(some 33), none, .load none (.t 2)⟩⟩,
    ⟨false, [33], [], ⟨(some 34), none, .nilCheck (.t 33)⟩⟩,
    ⟨false, [34], [], ⟨(some 35), none, .faddr 0 (.t 34)⟩⟩,
    ⟨false, [35], [], ⟨(some 36), none, .faddr 3 (.t 35)⟩⟩,
    ⟨false, [36], [], ⟨(some 37), none, .load none (.t 36)⟩⟩,
    ⟨false, [3], [], ⟨(some 38), none, .faddr 3 (.t 3)⟩⟩,
    ⟨false, [38], [], ⟨(some 39), none, .load none (.t 38)⟩⟩,
    ⟨false, [37, 39], [], ⟨(some 40), none, .iaddrS 22 (.t 37) (.t 39)⟩⟩,
    ⟨false, [40], [], ⟨(some 41), none, .load (some 22) (.t 40)⟩⟩,
    ⟨false, [2], [20], ⟨(some 42), none, .load none (.t 2)⟩⟩,
    ⟨false, [42], [], ⟨(some 43), none, .nilCheck (.t 42)⟩⟩,
    ⟨false, [43], [], ⟨(some 44), none, .faddr 0 (.t 43)⟩⟩,
    ⟨false, [44], [], ⟨(some 45), none, .faddr 3 (.t 44)⟩⟩,
    ⟨false, [45], [20], ⟨(some 46), none, .load none (.t 45)⟩⟩,
    ⟨false, [6], [], ⟨(some 47), none, .faddr 3 (.t 6)⟩⟩,
    ⟨false, [47], [20], ⟨(some 48), none, .load none (.t 47)⟩⟩,
    ⟨false, [46, 48], [], ⟨(some 49), none, .iaddrS 22 (.t 46) (.t 48)⟩⟩,
    ⟨false, [49], [20], ⟨(some 50), none, .load (some 22) (.t 49)⟩⟩,
    ⟨false, [], [], ⟨(some 8), none, .alloc [(.sc (.int .i64 (0))), (.sc (.int .i64 (0))), (.sc (.int .i64 (0))), (.sc (.int .i64 (0))), (.sc (.int .i64 (0))), (.sc (.int .i64 (0))), (.sc (.int .i64 (0))), (.sc (.int .i64 (0))), (.sc (.int .i64 (0))), (.sc (.int .i64 (0))), (.sc (.int .i64 (0))), (.sc (.int .i64 (0))), (.sc (.bool false)), (.sc (.int .i64 (0))), (.sc (.int .i64 (0))), (.sc (.int .i64 (0))), (.sc (.int .i64 (0))), (.sc (.int .i64 (0))), (.sc (.int .i64 (0))), (.sc (.string ⟨#[]⟩)), (.sl true .full 0 []), (.sl true .full 0 [])]⟩⟩,
    ⟨false, [], [], ⟨(some 9), none, .alloc [(.sc (.int .i64 (0))), (.sc (.int .i64 (0))), (.sc (.int .i64 (0))), (.sc (.int .i64 (0))), (.sc (.int .i64 (0))), (.sc (.int .i64 (0))), (.sc (.int .i64 (0))), (.sc (.int .i64 (0))), (.sc (.int .i64 (0))), (.sc (.int .i64 (0))), (.sc (.int .i64 (0))), (.sc (.int .i64 (0))), (.sc (.bool false)), (.sc (.int .i64 (0))), (.sc (.int .i64 (0))), (.sc (.int .i64 (0))), (.sc (.int .i64 (0))), (.sc (.int .i64 (0))), (.sc (.int .i64 (0))), (.sc (.string ⟨#[]⟩)), (.sl true .full 0 []), (.sl true .full 0 [])]⟩⟩,
    ⟨true, [8, 41], [], ⟨none, none, .store 22 (.t 8) (.t 41)⟩⟩]
    [⟨none, none, .store 22 (.t 9) (.t 50)⟩])
  (.seq (.ops [⟨(some 51), none, .faddr 13 (.t 8)⟩,
    ⟨(some 52), none, .load none (.t 51)⟩,
    ⟨(some 53), none, .bin .neq (.t 52) (.c (.sc (.int .i64 (0))))⟩,
    ⟨(some 54), none, .move (.t 53)⟩,
    ⟨(some 55), (some (54, false)), .faddr 15 (.t 8)⟩,
    ⟨(some 56), (some (54, false)), .load none (.t 55)⟩,
    ⟨(some 57), (some (54, false)), .bin .neq (.t 56) (.c (.sc (.int .i64 (0))))⟩,
    ⟨(some 58), none, .pick (.t 54) (.c (.sc (.bool true))) (.t 57)⟩,
    ⟨(some 59), none, .move (.t 58)⟩,
    ⟨(some 60), (some (59, false)), .faddr 16 (.t 8)⟩,
    ⟨(some 61), (some (59, false)), .load none (.t 60)⟩,
    ⟨(some 62), (some (59, false)), .bin .and (.t 61) (.c (.sc (.int .i64 (12))))⟩,
    ⟨(some 63), (some (59, false)), .bin .neq (.t 62) (.c (.sc (.int .i64 (0))))⟩,
    ⟨(some 64), none, .pick (.t 59) (.c (.sc (.bool true))) (.t 63)⟩,
    ⟨(some 65), none, .move (.t 64)⟩,
    ⟨(some 66), (some (65, false)), .faddr 14 (.t 8)⟩,
    ⟨(some 67), (some (65, false)), .load none (.t 66)⟩,
    ⟨(some 68), (some (65, false)), .faddr 14 (.t 9)⟩,
    ⟨(some 69), (some (65, false)), .load none (.t 68)⟩,
    ⟨(some 70), (some (65, false)), .bin .neq (.t 67) (.t 69)⟩,
    ⟨(some 71), none, .pick (.t 65) (.c (.sc (.bool true))) (.t 70)⟩,
    ⟨(some 72), none, .move (.t 71)⟩,
    ⟨(some 73), (some (72, false)), .faddr 12 (.t 9)⟩,
    ⟨(some 74), (some (72, false)), .load none (.t 73)⟩,
    ⟨(some 75), none, .pick (.t 72) (.c (.sc (.bool true))) (.t 74)⟩,
    ⟨(some 76), none, .move (.t 75)⟩,
    ⟨(some 77), (some (76, false)), .faddr 16 (.t 9)⟩,
    ⟨(some 78), (some (76, false)), .load none (.t 77)⟩,
    ⟨(some 79), (some (76, false)), .bin .and (.t 78) (.c (.sc (.int .i64 (3))))⟩,
    ⟨(some 80), (some (76, false)), .bin .neq (.t 79) (.c (.sc (.int .i64 (0))))⟩,
    ⟨(some 81), none, .pick (.t 76) (.c (.sc (.bool true))) (.t 80)⟩,
    ⟨(some 5), none, .move (.t 81)⟩])
  (.ret))))),
  [.t 5]⟩
theorem ok170 : EntryOk Tryz.prog 170 af170 := ⟨Tryz.f170, _, Tryz.func170, by decide, rfl, by kernel_rfl, by kernel_rfl, rfl⟩
/-- slices.Collect[hemiola/api.Note] -/
noncomputable def af178 : AF := ⟨5, .seq (.ops [⟨(some 2), none, .move (.c (.sl true .full 0 []))⟩])
  (.seq (.ops [⟨(some 3), none, .move (.t 0)⟩,
    ⟨(some 4), none, .call (.c (.fn (.func 252) [] [])) [(.c (.sl true .full 0 [])), (.t 3)]⟩,
    ⟨(some 2), none, .move (.t 4)⟩])
  (.ret)),
  [.t 2]⟩
theorem ok178 : EntryOk Tryz.prog 178 af178 := ⟨Tryz.f178, _, Tryz.func178, by decide, rfl, by kernel_rfl, by kernel_rfl, rfl⟩
/-- hemiola/metre.Check -/
noncomputable def af182 : AF := ⟨34, .seq (.ops [⟨(some 1), none, .box (.t 0)⟩,
    ⟨(some 2), none, .move (.c (.sc (.int .i64 (0))))⟩])
  (.seq (.block 0 (.seq (.ops [⟨(some 4), none, .faddr 0 (.t 1)⟩,
     ⟨(some 5), none, .load none (.t 4)⟩,
     ⟨(some 6), none, .bin .lss (.t 5) (.c (.sc (.int .i64 (1))))⟩,
     ⟨(some 7), none, .move (.t 6)⟩,
     ⟨(some 8), (some (7, false)), .faddr 0 (.t 1)⟩,
     ⟨(some 9), (some (7, false)), .load none (.t 8)⟩,
     ⟨(some 10), (some (7, false)), .bin .gtr (.t 9) (.c (.sc (.int .i64 (64))))⟩,
     ⟨(some 11), none, .pick (.t 7) (.c (.sc (.bool true))) (.t 10)⟩,
     ⟨(some 3), none, .move (.t 11)⟩])
   (.cond (.t 3)
    (.seq (.ops [⟨(some 2), none, .move (.c (.sc (.int .i64 (2))))⟩])
    (.ret))
    (.seq (.ops [⟨(some 13), none, .faddr 1 (.t 1)⟩,
      ⟨(some 14), none, .load none (.t 13)⟩,
      ⟨(some 15), none, .bin .lss (.t 14) (.c (.sc (.int .i64 (1))))⟩,
      ⟨(some 16), none, .move (.t 15)⟩,
      ⟨(some 17), (some (16, false)), .faddr 1 (.t 1)⟩,
      ⟨(some 18), (some (16, false)), .load none (.t 17)⟩,
      ⟨(some 19), (some (16, false)), .bin .gtr (.t 18) (.c (.sc (.int .i64 (64))))⟩,
      ⟨(some 20), none, .pick (.t 16) (.c (.sc (.bool true))) (.t 19)⟩,
      ⟨(some 21), none, .move (.t 20)⟩,
      ⟨(some 22), (some (21, false)), .faddr 1 (.t 1)⟩,
      ⟨(some 23), (some (21, false)), .load none (.t 22)⟩,
      ⟨(some 24), (some (21, false)), .faddr 1 (.t 1)⟩,
      ⟨(some 25), (some (21, false)), .load none (.t 24)⟩,
      ⟨(some 26), (some (21, false)), .bin .sub (.t 25) (.c (.sc (.int .i64 (1))))⟩,
      ⟨(some 27), (some (21, false)), .bin .and (.t 23) (.t 26)⟩,
      ⟨(some 28), (some (21, false)), .bin .neq (.t 27) (.c (.sc (.int .i64 (0))))⟩,
      ⟨(some 29), none, .pick (.t 21) (.c (.sc (.bool true))) (.t 28)⟩,
      ⟨(some 12), none, .move (.t 29)⟩])
    (.cond (.t 12)
     (.seq (.ops [⟨(some 2), none, .move (.c (.sc (.int .i64 (17))))⟩])
     (.ret))
     (.seq (.ops [⟨(some 31), none, .load (some 8) (.t 1)⟩,
       ⟨(some 32), none, .call (.c (.fn (.func 257) [] [])) [(.t 31)]⟩,
       ⟨(some 33), none, .un .not (.t 32)⟩,
       ⟨(some 30), none, .move (.t 33)⟩])
     (.cond (.t 30)
      (.seq (.ops [⟨(some 2), none, .move (.c (.sc (.int .i64 (19))))⟩])
      (.ret))
      (.skip))))))))
  (.seq (.ops [⟨(some 2), none, .move (.c (.sc (.int .i64 (0))))⟩])
  (.ret))),
  [.t 2]⟩
theorem ok182 : EntryOk Tryz.prog 182 af182 := ⟨Tryz.f182, _, Tryz.func182, by decide, rfl, by kernel_rfl, by kernel_rfl, rfl⟩
/-- hemiola/metre.Offset -/
noncomputable def af186 : AF := ⟨23, .seq (.ops [⟨(some 2), none, .box (.t 0)⟩,
    ⟨(some 4), none, .move (.c (.sc (.int .i64 (0))))⟩,
    ⟨(some 5), none, .move (.c (.sc (.int .i64 (0))))⟩])
  (.seq (.seq (.ops [⟨(some 7), none, .load (some 8) (.t 2)⟩,
    ⟨(some 8), none, .call (.c (.fn (.func 182) [] [])) [(.t 7)]⟩,
    ⟨(some 6), none, .move (.t 8)⟩])
  (.seq (.ops [⟨(some 9), none, .move (.t 6)⟩,
    ⟨(some 10), none, .bin .neq (.t 9) (.c (.sc (.int .i64 (0))))⟩])
  (.cond (.t 10)
   (.seq (.ops [⟨(some 11), none, .move (.t 6)⟩,
     ⟨(some 4), none, .move (.c (.sc (.int .i64 (0))))⟩,
     ⟨(some 5), none, .move (.t 11)⟩])
   (.ret))
   (.skip))))
  (.seq (.seq (.ops [⟨(some 12), none, .move (.t 1)⟩,
    ⟨(some 13), none, .bin .lss (.t 12) (.c (.sc (.int .i64 (1))))⟩,
    ⟨(some 14), none, .move (.t 13)⟩,
    ⟨(some 15), (some (14, false)), .move (.t 1)⟩,
    ⟨(some 16), (some (14, false)), .bin .gtr (.t 15) (.c (.sc (.int .i64 (4398046511104))))⟩,
    ⟨(some 17), none, .pick (.t 14) (.c (.sc (.bool true))) (.t 16)⟩])
  (.cond (.t 17)
   (.seq (.ops [⟨(some 4), none, .move (.c (.sc (.int .i64 (0))))⟩,
     ⟨(some 5), none, .move (.c (.sc (.int .i64 (2))))⟩])
   (.ret))
   (.skip)))
  (.seq (.ops [⟨(some 18), none, .load (some 8) (.t 2)⟩,
    ⟨(some 19), none, .call (.c (.fn (.func 183) [] [])) [(.t 18)]⟩,
    ⟨(some 20), none, .move (.t 1)⟩,
    ⟨(some 21), none, .bin .sub (.t 19) (.t 20)⟩,
    ⟨(some 22), none, .mm true [(.c (.sc (.int .i64 (0)))), (.t 21)]⟩,
    ⟨(some 4), none, .move (.t 22)⟩,
    ⟨(some 5), none, .move (.c (.sc (.int .i64 (0))))⟩])
  (.ret)))),
  [.t 4, .t 5]⟩
theorem ok186 : EntryOk Tryz.prog 186 af186 := ⟨Tryz.f186, _, Tryz.func186, by decide, rfl, by kernel_rfl, by kernel_rfl, rfl⟩
/-- hemiola/pitch.number -/
noncomputable def af190 : AF := ⟨15, .seq (.ops [⟨(some 1), none, .box (.t 0)⟩,
    ⟨(some 2), none, .move (.c (.sc (.int .i64 (0))))⟩])
  (.seq (.draw [⟨false, [1], [], ⟨(some 3), none, .faddr 2 (.t 1)⟩⟩,
    ⟨false, [3], [4], ⟨(some 4), none, .load none (.t 3)⟩⟩,
    ⟨false, [4], [], ⟨(some 5), none, .bin .add (.t 4) (.c (.sc (.int .i64 (1))))⟩⟩,
    ⟨false, [5], [], ⟨(some 6), none, .bin .mul (.c (.sc (.int .i64 (12)))) (.t 5)⟩⟩,
    ⟨true, [], [], ⟨(some 7), none, .call (.c (.fn (.func 263) [] [])) []⟩⟩,
    ⟨false, [1], [], ⟨(some 8), none, .faddr 0 (.t 1)⟩⟩,
    ⟨false, [8], [4], ⟨(some 9), none, .load none (.t 8)⟩⟩,
    ⟨false, [7, 9], [], ⟨(some 10), none, .idxA 1 7 none (.t 7) (.t 9)⟩⟩,
    ⟨false, [6, 10], [], ⟨(some 11), none, .bin .add (.t 6) (.t 10)⟩⟩,
    ⟨false, [1], [], ⟨(some 12), none, .faddr 1 (.t 1)⟩⟩,
    ⟨false, [12], [4], ⟨(some 13), none, .load none (.t 12)⟩⟩]
    [⟨(some 14), none, .bin .add (.t 11) (.t 13)⟩,
    ⟨(some 2), none, .move (.t 14)⟩])
  (.ret)),
  [.t 2]⟩
theorem ok190 : EntryOk Tryz.prog 190 af190 := ⟨Tryz.f190, _, Tryz.func190, by decide, rfl, by kernel_rfl, by kernel_rfl, rfl⟩
/-- slices.insertionSortCmpFunc[hemiola/perform.place] -/
noncomputable def af194 : AF := ⟨53, .seq (.ops [⟨(some 10), none, .move (.t 1)⟩,
    ⟨(some 11), none, .bin .add (.t 10) (.c (.sc (.int .i64 (1))))⟩,
    ⟨(some 8), none, .move (.t 11)⟩])
  (.block 0 (.loop (.seq (.seq (.ops [⟨(some 12), none, .move (.t 8)⟩,
      ⟨(some 13), none, .move (.t 2)⟩,
      ⟨(some 14), none, .bin .lss (.t 12) (.t 13)⟩])
    (.cond (.t 14)
     (.skip)
     (.exit 0)))
    (.seq (.block 1 (.seq (.ops [⟨(some 17), none, .move (.t 8)⟩,
       ⟨(some 9), none, .move (.t 17)⟩])
     (.block 2 (.loop (.seq (.seq (.draw [⟨true, [9], [], ⟨(some 18), none, .move (.t 9)⟩⟩,
         ⟨true, [1], [], ⟨(some 19), none, .move (.t 1)⟩⟩,
         ⟨true, [18, 19], [], ⟨(some 20), none, .bin .gtr (.t 18) (.t 19)⟩⟩,
         ⟨true, [20], [], ⟨(some 21), none, .move (.t 20)⟩⟩,
         ⟨false, [3, 21], [], ⟨(some 22), (some (21, true)), .move (.t 3)⟩⟩,
         ⟨false, [0, 21], [], ⟨(some 23), (some (21, true)), .move (.t 0)⟩⟩,
         ⟨false, [9, 21], [], ⟨(some 24), (some (21, true)), .move (.t 9)⟩⟩,
         ⟨false, [23, 24, 21], [], ⟨(some 25), (some (21, true)), .iaddrS 18 (.t 23) (.t 24)⟩⟩,
         ⟨false, [25, 21], [], ⟨(some 26), (some (21, true)), .load (some 18) (.t 25)⟩⟩,
         ⟨false, [0, 21], [], ⟨(some 27), (some (21, true)), .move (.t 0)⟩⟩,
         ⟨false, [9, 21], [], ⟨(some 28), (some (21, true)), .move (.t 9)⟩⟩,
         ⟨false, [28, 21], [], ⟨(some 29), (some (21, true)), .bin .sub (.t 28) (.c (.sc (.int .i64 (1))))⟩⟩,
         ⟨false, [27, 29, 21], [], ⟨(some 30), (some (21, true)), .iaddrS 18 (.t 27) (.t 29)⟩⟩,
         ⟨false, [30, 21], [], ⟨(some 31), (some (21, true)), .load (some 18) (.t 30)⟩⟩]
         [⟨(some 32), (some (21, true)), .call (.t 22) [(.t 26), (.t 31)]⟩,
         ⟨(some 33), (some (21, true)), .bin .lss (.t 32) (.c (.sc (.int .i64 (0))))⟩,
         ⟨(some 34), none, .pick (.t 21) (.t 33) (.c (.sc (.bool false)))⟩])
       (.cond (.t 34)
        (.skip)
        (.exit 2)))
       (.seq (.block 3 (.draw [⟨false, [0], [], ⟨(some 37), none, .move (.t 0)⟩⟩,
          ⟨false, [9], [], ⟨(some 38), none, .move (.t 9)⟩⟩,
          ⟨false, [0], [], ⟨(some 39), none, .move (.t 0)⟩⟩,
          ⟨false, [9], [], ⟨(some 40), none, .move (.t 9)⟩⟩,
          ⟨false, [40], [], ⟨(some 41), none, .bin .sub (.t 40) (.c (.sc (.int .i64 (1))))⟩⟩,
          ⟨false, [0], [], ⟨(some 42), none, .move (.t 0)⟩⟩,
          ⟨false, [9], [], ⟨(some 43), none, .move (.t 9)⟩⟩,
          ⟨false, [43], [], ⟨(some 44), none, .bin .sub (.t 43) (.c (.sc (.int .i64 (1))))⟩⟩,
          ⟨false, [42, 44], [], ⟨(some 45), none, .iaddrS 18 (.t 42) (.t 44)⟩⟩,
          ⟨false, [45], [], ⟨(some 46), none, .load (some 18) (.t 45)⟩⟩,
          ⟨false, [0], [], ⟨(some 47), none, .move (.t 0)⟩⟩,
          ⟨false, [9], [], ⟨(some 48), none, .move (.t 9)⟩⟩,
          ⟨false, [47, 48], [], ⟨(some 49), none, .iaddrS 18 (.t 47) (.t 48)⟩⟩,
          ⟨false, [49], [], ⟨(some 50), none, .load (some 18) (.t 49)⟩⟩,
          ⟨true, [37, 38], [], ⟨(some 51), none, .iaddrS 18 (.t 37) (.t 38)⟩⟩,
          ⟨true, [51, 46], [], ⟨none, none, .store 18 (.t 51) (.t 46)⟩⟩]
          [⟨(some 52), none, .iaddrS 18 (.t 39) (.t 41)⟩,
          ⟨none, none, .store 18 (.t 52) (.t 50)⟩]))
       (.ops [⟨(some 35), none, .move (.t 9)⟩,
         ⟨(some 36), none, .bin .sub (.t 35) (.c (.sc (.int .i64 (1))))⟩,
         ⟨(some 9), none, .move (.t 36)⟩])))))))
    (.ops [⟨(some 15), none, .move (.t 8)⟩,
      ⟨(some 16), none, .bin .add (.t 15) (.c (.sc (.int .i64 (1))))⟩,
      ⟨(some 8), none, .move (.t 16)⟩]))))),
  []⟩
theorem ok194 : EntryOk Tryz.prog 194 af194 := ⟨Tryz.f194, _, Tryz.func194, by decide, rfl, by kernel_rfl, by kernel_rfl, rfl⟩
/-- hemiola/score.visit -/
noncomputable def af209 : AF := ⟨4, .seq (.ops [⟨(some 1), none, .box (.t 0)⟩,
    ⟨(some 2), none, .move (.c (.sc .nilFunc))⟩])
  (.seq (.ops [⟨(some 3), none, .mkFn (.func 272) [] [(.t 1)]⟩,
    ⟨(some 2), none, .move (.t 3)⟩])
  (.ret)),
  [.t 2]⟩
theorem ok209 : EntryOk Tryz.prog 209 af209 := ⟨Tryz.f209, _, Tryz.func209, by decide, rfl, by kernel_rfl, by kernel_rfl, rfl⟩
/-- slices.ContainsFunc[[]hemiola/api.Cell,hemiola/api.Cell] -/
noncomputable def af213 : AF := ⟨9, .seq (.ops [⟨(some 4), none, .move (.c (.sc (.bool false)))⟩])
  (.seq (.ops [⟨(some 5), none, .move (.t 0)⟩,
    ⟨(some 6), none, .move (.t 1)⟩,
    ⟨(some 7), none, .call (.c (.fn (.func 274) [] [])) [(.t 5), (.t 6)]⟩,
    ⟨(some 8), none, .bin .geq (.t 7) (.c (.sc (.int .i64 (0))))⟩,
    ⟨(some 4), none, .move (.t 8)⟩])
  (.ret)),
  [.t 4]⟩
theorem ok213 : EntryOk Tryz.prog 213 af213 := ⟨Tryz.f213, _, Tryz.func213, by decide, rfl, by kernel_rfl, by kernel_rfl, rfl⟩
/-- slices.ContainsFunc[[]hemiola/api.Event,hemiola/api.Event] -/
noncomputable def af217 : AF := ⟨9, .seq (.ops [⟨(some 4), none, .move (.c (.sc (.bool false)))⟩])
  (.seq (.ops [⟨(some 5), none, .move (.t 0)⟩,
    ⟨(some 6), none, .move (.t 1)⟩,
    ⟨(some 7), none, .call (.c (.fn (.func 276) [] [])) [(.t 5), (.t 6)]⟩,
    ⟨(some 8), none, .bin .geq (.t 7) (.c (.sc (.int .i64 (0))))⟩,
    ⟨(some 4), none, .move (.t 8)⟩])
  (.ret)),
  [.t 4]⟩
theorem ok217 : EntryOk Tryz.prog 217 af217 := ⟨Tryz.f217, _, Tryz.func217, by decide, rfl, by kernel_rfl, by kernel_rfl, rfl⟩
/-- hemiola/event.exists -/
noncomputable def af221 : AF := ⟨9, .seq (.ops [⟨(some 2), none, .move (.c (.sc (.bool false)))⟩])
  (.seq (.ops [⟨(some 3), none, .move (.t 0)⟩,
    ⟨(some 4), none, .bin .geq (.t 3) (.c (.sc (.int .i64 (1))))⟩,
    ⟨(some 5), none, .move (.t 4)⟩,
    ⟨(some 6), (some (5, true)), .move (.t 0)⟩,
    ⟨(some 7), (some (5, true)), .bin .leq (.t 6) (.c (.sc (.int .i64 (4))))⟩,
    ⟨(some 8), none, .pick (.t 5) (.t 7) (.c (.sc (.bool false)))⟩,
    ⟨(some 2), none, .move (.t 8)⟩])
  (.ret)),
  [.t 2]⟩
theorem ok221 : EntryOk Tryz.prog 221 af221 := ⟨Tryz.f221, _, Tryz.func221, by decide, rfl, by kernel_rfl, by kernel_rfl, rfl⟩
/-- hemiola/event.CheckHeads -/
noncomputable def af225 : AF := ⟨39, .seq (.ops [⟨(some 2), none, .move (.c (.sc (.int .i64 (0))))⟩])
  (.seq (.block 0 (.seq (.ops [⟨(some 10), none, .move (.t 0)⟩,
     ⟨(some 11), none, .len (.t 10)⟩,
     ⟨(some 12), none, .bin .eql (.t 11) (.c (.sc (.int .i64 (0))))⟩,
     ⟨(some 9), none, .move (.t 12)⟩])
   (.cond (.t 9)
    (.seq (.ops [⟨(some 2), none, .move (.c (.sc (.int .i64 (4))))⟩])
    (.ret))
    (.seq (.ops [⟨(some 14), none, .move (.t 0)⟩,
      ⟨(some 15), none, .len (.t 14)⟩,
      ⟨(some 16), none, .bin .gtr (.t 15) (.c (.sc (.int .i64 (10))))⟩,
      ⟨(some 13), none, .move (.t 16)⟩])
    (.cond (.t 13)
     (.seq (.ops [⟨(some 2), none, .move (.c (.sc (.int .i64 (9))))⟩])
     (.ret))
     (.skip))))))
  (.seq (.ops [⟨(some 3), none, .move (.c (.sc (.int .i64 (-1))))⟩])
  (.seq (.seq (.ops [⟨(some 17), none, .move (.t 0)⟩,
    ⟨(some 18), none, .len (.t 17)⟩,
    ⟨(some 19), none, .move (.c (.sc (.int .i64 (0))))⟩])
  (.block 1 (.loop (.seq (.ops [⟨(some 20), none, .bin .lss (.t 19) (.t 18)⟩])
    (.seq (.cond (.t 20)
     (.skip)
     (.exit 1))
    (.seq (.block 2 (.seq (.ops [⟨(some 21), none, .iaddrS 5 (.t 17) (.t 19)⟩,
       ⟨(some 22), none, .load (some 5) (.t 21)⟩,
       ⟨(some 5), none, .alloc [(.sc (.int .i64 (0))), (.sc (.int .i64 (0))), (.sc (.int .i64 (0))), (.sc (.bool false)), (.sc (.int .i64 (0)))]⟩,
       ⟨none, none, .store 5 (.t 5) (.t 22)⟩])
     (.seq (.seq (.ops [⟨(some 23), none, .load (some 5) (.t 5)⟩,
       ⟨(some 24), none, .call (.c (.fn (.func 281) [] [])) [(.t 23)]⟩,
       ⟨(some 6), none, .move (.t 24)⟩])
     (.seq (.ops [⟨(some 25), none, .move (.t 6)⟩,
       ⟨(some 26), none, .bin .neq (.t 25) (.c (.sc (.int .i64 (0))))⟩])
     (.cond (.t 26)
      (.seq (.ops [⟨(some 27), none, .move (.t 6)⟩,
        ⟨(some 2), none, .move (.t 27)⟩])
      (.ret))
      (.skip))))
     (.seq (.ops [⟨(some 29), none, .faddr 0 (.t 5)⟩,
       ⟨(some 30), none, .load (some 3) (.t 29)⟩,
       ⟨(some 31), none, .call (.c (.fn (.func 188) [] [])) [(.t 30)]⟩,
       ⟨(some 28), none, .move (.t 31)⟩,
       ⟨(some 32), none, .extract 0 (.t 28)⟩,
       ⟨(some 33), none, .extract 1 (.t 28)⟩,
       ⟨(some 7), none, .move (.t 32)⟩,
       ⟨(some 8), none, .move (.t 33)⟩])
     (.seq (.seq (.ops [⟨(some 34), none, .move (.t 7)⟩,
       ⟨(some 35), none, .move (.t 3)⟩,
       ⟨(some 36), none, .bin .leq (.t 34) (.t 35)⟩])
     (.cond (.t 36)
      (.seq (.ops [⟨(some 2), none, .move (.c (.sc (.int .i64 (25))))⟩])
      (.ret))
      (.skip)))
     (.ops [⟨(some 37), none, .move (.t 7)⟩,
       ⟨(some 3), none, .move (.t 37)⟩]))))))
    (.ops [⟨(some 38), none, .bin .add (.t 19) (.c (.sc (.int .i64 (1))))⟩,
      ⟨(some 19), none, .move (.t 38)⟩])))))))
  (.seq (.ops [⟨(some 2), none, .move (.c (.sc (.int .i64 (0))))⟩])
  (.ret))))),
  [.t 2]⟩
theorem ok225 : EntryOk Tryz.prog 225 af225 := ⟨Tryz.f225, _, Tryz.func225, by decide, rfl, by kernel_rfl, by kernel_rfl, rfl⟩
/-- hemiola/event.Ties$1 -/
noncomputable def af229 : AF := ⟨5, .seq (.ops [⟨(some 1), none, .box (.t 0)⟩,
    ⟨(some 2), none, .move (.c (.sc (.bool false)))⟩])
  (.seq (.ops [⟨(some 3), none, .faddr 3 (.t 1)⟩,
    ⟨(some 4), none, .load none (.t 3)⟩,
    ⟨(some 2), none, .move (.t 4)⟩])
  (.ret)),
  [.t 2]⟩
theorem ok229 : EntryOk Tryz.prog 229 af229 := ⟨Tryz.f229, _, Tryz.func229, by decide, rfl, by kernel_rfl, by kernel_rfl, rfl⟩
/-- slices.IndexFunc[[]hemiola/api.Measure,hemiola/api.Measure] -/
noncomputable def af245 : AF := ⟨19, .seq (.ops [⟨(some 4), none, .move (.c (.sc (.int .i64 (0))))⟩])
  (.seq (.seq (.ops [⟨(some 6), none, .move (.t 0)⟩,
    ⟨(some 7), none, .len (.t 6)⟩,
    ⟨(some 8), none, .move (.c (.sc (.int .i64 (0))))⟩])
  (.block 0 (.loop (.seq (.ops [⟨(some 9), none, .bin .lss (.t 8) (.t 7)⟩])
    (.seq (.cond (.t 9)
     (.skip)
     (.exit 0))
    (.seq (.block 1 (.seq (.ops [⟨(some 10), none, .move (.t 8)⟩,
       ⟨(some 5), none, .move (.t 10)⟩])
     (.seq (.ops [⟨(some 11), none, .move (.t 1)⟩,
       ⟨(some 12), none, .move (.t 0)⟩,
       ⟨(some 13), none, .move (.t 5)⟩,
       ⟨(some 14), none, .iaddrS 22 (.t 12) (.t 13)⟩,
       ⟨(some 15), none, .load (some 22) (.t 14)⟩,
       ⟨(some 16), none, .call (.t 11) [(.t 15)]⟩])
     (.cond (.t 16)
      (.seq (.ops [⟨(some 17), none, .move (.t 5)⟩,
        ⟨(some 4), none, .move (.t 17)⟩])
      (.ret))
      (.skip)))))
    (.ops [⟨(some 18), none, .bin .add (.t 8) (.c (.sc (.int .i64 (1))))⟩,
      ⟨(some 8), none, .move (.t 18)⟩])))))))
  (.seq (.ops [⟨(some 4), none, .move (.c (.sc (.int .i64 (-1))))⟩])
  (.ret))),
  [.t 4]⟩
theorem ok245 : EntryOk Tryz.prog 245 af245 := ⟨Tryz.f245, _, Tryz.func245, by decide, rfl, by kernel_rfl, by kernel_rfl, rfl⟩
/-- hemiola/tempo.mixed -/
noncomputable def af254 : AF := ⟨46, .seq (.ops [⟨(some 8), none, .move (.c (.sc (.int .u64 (0))))⟩,
    ⟨(some 9), none, .move (.c (.sc (.int .u64 (0))))⟩])
  (.seq (.ops [⟨(some 16), none, .move (.t 0)⟩,
    ⟨(some 17), none, .convI .u64 (.t 16)⟩,
    ⟨(some 18), none, .move (.t 1)⟩,
    ⟨(some 19), none, .convI .u64 (.t 18)⟩,
    ⟨(some 20), none, .call (.c (.fn (.func 255) [] [])) [(.t 17), (.t 19)]⟩,
    ⟨(some 15), none, .move (.t 20)⟩,
    ⟨(some 21), none, .extract 0 (.t 15)⟩,
    ⟨(some 22), none, .extract 1 (.t 15)⟩,
    ⟨(some 10), none, .move (.t 21)⟩,
    ⟨(some 11), none, .move (.t 22)⟩])
  (.seq (.ops [⟨(some 24), none, .move (.t 2)⟩,
    ⟨(some 25), none, .convI .u64 (.t 24)⟩,
    ⟨(some 26), none, .move (.t 3)⟩,
    ⟨(some 27), none, .convI .u64 (.t 26)⟩,
    ⟨(some 28), none, .call (.c (.fn (.func 255) [] [])) [(.t 25), (.t 27)]⟩,
    ⟨(some 23), none, .move (.t 28)⟩,
    ⟨(some 29), none, .extract 0 (.t 23)⟩,
    ⟨(some 30), none, .extract 1 (.t 23)⟩,
    ⟨(some 12), none, .move (.t 29)⟩,
    ⟨(some 13), none, .move (.t 30)⟩])
  (.seq (.ops [⟨(some 32), none, .move (.t 11)⟩,
    ⟨(some 33), none, .move (.t 13)⟩,
    ⟨(some 34), none, .call (.c (.fn (.func 296) [] [])) [(.t 32), (.t 33), (.c (.sc (.int .u64 (0))))]⟩,
    ⟨(some 31), none, .move (.t 34)⟩,
    ⟨(some 35), none, .extract 0 (.t 31)⟩,
    ⟨(some 36), none, .extract 1 (.t 31)⟩,
    ⟨(some 9), none, .move (.t 35)⟩,
    ⟨(some 14), none, .move (.t 36)⟩])
  (.seq (.ops [⟨(some 38), none, .move (.t 10)⟩,
    ⟨(some 39), none, .move (.t 12)⟩,
    ⟨(some 40), none, .move (.t 14)⟩,
    ⟨(some 41), none, .call (.c (.fn (.func 296) [] [])) [(.t 38), (.t 39), (.t 40)]⟩,
    ⟨(some 37), none, .move (.t 41)⟩,
    ⟨(some 42), none, .extract 0 (.t 37)⟩,
    ⟨(some 43), none, .extract 1 (.t 37)⟩,
    ⟨(some 8), none, .move (.t 42)⟩])
  (.seq (.ops [⟨(some 44), none, .move (.t 8)⟩,
    ⟨(some 45), none, .move (.t 9)⟩,
    ⟨(some 8), none, .move (.t 44)⟩,
    ⟨(some 9), none, .move (.t 45)⟩])
  (.ret)))))),
  [.t 8, .t 9]⟩
theorem ok254 : EntryOk Tryz.prog 254 af254 := ⟨Tryz.f254, _, Tryz.func254, by decide, rfl, by kernel_rfl, by kernel_rfl, rfl⟩
/-- hemiola/metre.unit -/
noncomputable def af258 : AF := ⟨6, .seq (.ops [⟨(some 1), none, .box (.t 0)⟩,
    ⟨(some 2), none, .move (.c (.sc (.int .i64 (0))))⟩])
  (.seq (.ops [⟨(some 3), none, .faddr 1 (.t 1)⟩,
    ⟨(some 4), none, .load none (.t 3)⟩,
    ⟨(some 5), none, .bin .quo (.c (.sc (.int .i64 (1935360)))) (.t 4)⟩,
    ⟨(some 2), none, .move (.t 5)⟩])
  (.ret)),
  [.t 2]⟩
theorem ok258 : EntryOk Tryz.prog 258 af258 := ⟨Tryz.f258, _, Tryz.func258, by decide, rfl, by kernel_rfl, by kernel_rfl, rfl⟩
/-- (*hemiola/tempo.Map).find$1 -/
noncomputable def af262 : AF := ⟨15, .seq (.ops [⟨(some 4), none, .move (.c (.sc (.bool false)))⟩])
  (.seq (.draw [⟨false, [1], [], ⟨(some 5), none, .load none (.t 1)⟩⟩,
    ⟨false, [5], [], ⟨(some 6), none, .nilCheck (.t 5)⟩⟩,
    ⟨false, [6], [], ⟨(some 7), none, .faddr 0 (.t 6)⟩⟩,
    ⟨false, [7], [], ⟨(some 8), none, .load none (.t 7)⟩⟩,
    ⟨false, [0], [], ⟨(some 9), none, .move (.t 0)⟩⟩,
    ⟨false, [8, 9], [], ⟨(some 10), none, .iaddrS 5 (.t 8) (.t 9)⟩⟩,
    ⟨false, [10], [], ⟨(some 11), none, .faddr 0 (.t 10)⟩⟩,
    ⟨false, [11], [], ⟨(some 12), none, .load none (.t 11)⟩⟩,
    ⟨false, [2], [], ⟨(some 13), none, .load none (.t 2)⟩⟩]
    [⟨(some 14), none, .bin .gtr (.t 12) (.t 13)⟩,
    ⟨(some 4), none, .move (.t 14)⟩])
  (.ret)),
  [.t 4]⟩
theorem ok262 : EntryOk Tryz.prog 262 af262 := ⟨Tryz.f262, _, Tryz.func262, by decide, rfl, by kernel_rfl, by kernel_rfl, rfl⟩
/-- hemiola/score.visit$1 -/
noncomputable def af272 : AF := ⟨183, .seq (.ops [⟨(some 3), none, .move (.c (.sc (.int .i64 (0))))⟩])
  (.seq (.seq (.ops [⟨(some 11), none, .load none (.t 1)⟩,
    ⟨(some 12), none, .nilCheck (.t 11)⟩,
    ⟨(some 13), none, .faddr 2 (.t 12)⟩,
    ⟨(some 14), none, .load none (.t 13)⟩,
    ⟨(some 15), none, .len (.t 14)⟩,
    ⟨(some 16), none, .move (.c (.sc (.int .i64 (0))))⟩])
  (.block 0 (.loop (.seq (.ops [⟨(some 17), none, .bin .lss (.t 16) (.t 15)⟩])
    (.seq (.cond (.t 17)
     (.skip)
     (.exit 0))
    (.seq (.block 1 (.seq (.ops [⟨(some 18), none, .move (.t 16)⟩,
       ⟨(some 4), none, .move (.t 18)⟩])
     (.seq (.seq (.ops [⟨(some 19), none, .move (.t 0)⟩,
       ⟨(some 20), none, .move (.t 4)⟩,
       ⟨(some 21), none, .build [(.sc (.int .i64 (0))), (.sc (.int .i64 (0))), (.sc (.int .i64 (0))), (.sc (.int .i64 (0))), (.sc (.int .i64 (0))), (.sc (.int .i64 (0))), (.sc (.int .i64 (0)))] [((0, 1), (.c (.sc (.int .i64 (1))))), ((1, 1), (.t 20))]⟩,
       ⟨(some 22), none, .load none (.t 1)⟩,
       ⟨(some 23), none, .nilCheck (.t 22)⟩,
       ⟨(some 24), none, .faddr 2 (.t 23)⟩,
       ⟨(some 25), none, .load none (.t 24)⟩,
       ⟨(some 26), none, .move (.t 4)⟩,
       ⟨(some 27), none, .iaddrS 6 (.t 25) (.t 26)⟩,
       ⟨(some 28), none, .faddr 0 (.t 27)⟩,
       ⟨(some 29), none, .call (.t 19) [(.t 21), (.t 28)]⟩,
       ⟨(some 30), none, .un .not (.t 29)⟩])
     (.cond (.t 30)
      (.ret)
      (.skip)))
     (.seq (.ops [⟨(some 31), none, .load none (.t 1)⟩,
       ⟨(some 32), none, .nilCheck (.t 31)⟩,
       ⟨(some 33), none, .faddr 2 (.t 32)⟩,
       ⟨(some 34), none, .load none (.t 33)⟩,
       ⟨(some 35), none, .move (.t 4)⟩,
       ⟨(some 36), none, .iaddrS 6 (.t 34) (.t 35)⟩,
       ⟨(some 37), none, .faddr 5 (.t 36)⟩,
       ⟨(some 38), none, .load none (.t 37)⟩,
       ⟨(some 39), none, .len (.t 38)⟩,
       ⟨(some 40), none, .move (.c (.sc (.int .i64 (0))))⟩])
     (.block 2 (.loop (.seq (.ops [⟨(some 41), none, .bin .lss (.t 40) (.t 39)⟩])
       (.seq (.cond (.t 41)
        (.skip)
        (.exit 2))
       (.seq (.block 3 (.seq (.ops [⟨(some 42), none, .move (.t 40)⟩,
          ⟨(some 5), none, .move (.t 42)⟩])
        (.seq (.seq (.ops [⟨(some 43), none, .move (.t 0)⟩,
          ⟨(some 44), none, .move (.t 3)⟩,
          ⟨(some 45), none, .build [(.sc (.int .i64 (0))), (.sc (.int .i64 (0))), (.sc (.int .i64 (0))), (.sc (.int .i64 (0))), (.sc (.int .i64 (0))), (.sc (.int .i64 (0))), (.sc (.int .i64 (0)))] [((0, 1), (.c (.sc (.int .i64 (2))))), ((2, 1), (.t 44))]⟩,
          ⟨(some 46), none, .load none (.t 1)⟩,
          ⟨(some 47), none, .nilCheck (.t 46)⟩,
          ⟨(some 48), none, .faddr 2 (.t 47)⟩,
          ⟨(some 49), none, .load none (.t 48)⟩,
          ⟨(some 50), none, .move (.t 4)⟩,
          ⟨(some 51), none, .iaddrS 6 (.t 49) (.t 50)⟩,
          ⟨(some 52), none, .faddr 5 (.t 51)⟩,
          ⟨(some 53), none, .load none (.t 52)⟩,
          ⟨(some 54), none, .move (.t 5)⟩,
          ⟨(some 55), none, .iaddrS 3 (.t 53) (.t 54)⟩,
          ⟨(some 56), none, .faddr 0 (.t 55)⟩,
          ⟨(some 57), none, .call (.t 43) [(.t 45), (.t 56)]⟩,
          ⟨(some 58), none, .un .not (.t 57)⟩])
        (.cond (.t 58)
         (.ret)
         (.skip)))
        (.ops [⟨(some 59), none, .move (.t 3)⟩,
          ⟨(some 60), none, .bin .add (.t 59) (.c (.sc (.int .i64 (1))))⟩,
          ⟨(some 3), none, .move (.t 60)⟩]))))
       (.ops [⟨(some 61), none, .bin .add (.t 40) (.c (.sc (.int .i64 (1))))⟩,
         ⟨(some 40), none, .move (.t 61)⟩]))))))))))
    (.ops [⟨(some 62), none, .bin .add (.t 16) (.c (.sc (.int .i64 (1))))⟩,
      ⟨(some 16), none, .move (.t 62)⟩])))))))
  (.seq (.seq (.ops [⟨(some 63), none, .load none (.t 1)⟩,
    ⟨(some 64), none, .nilCheck (.t 63)⟩,
    ⟨(some 65), none, .faddr 3 (.t 64)⟩,
    ⟨(some 66), none, .load none (.t 65)⟩,
    ⟨(some 67), none, .len (.t 66)⟩,
    ⟨(some 68), none, .move (.c (.sc (.int .i64 (0))))⟩])
  (.block 4 (.loop (.seq (.ops [⟨(some 69), none, .bin .lss (.t 68) (.t 67)⟩])
    (.seq (.cond (.t 69)
     (.skip)
     (.exit 4))
    (.seq (.block 5 (.seq (.ops [⟨(some 70), none, .move (.t 68)⟩,
       ⟨(some 6), none, .move (.t 70)⟩])
     (.seq (.seq (.ops [⟨(some 71), none, .move (.t 0)⟩,
       ⟨(some 72), none, .move (.t 6)⟩,
       ⟨(some 73), none, .build [(.sc (.int .i64 (0))), (.sc (.int .i64 (0))), (.sc (.int .i64 (0))), (.sc (.int .i64 (0))), (.sc (.int .i64 (0))), (.sc (.int .i64 (0))), (.sc (.int .i64 (0)))] [((0, 1), (.c (.sc (.int .i64 (3))))), ((3, 1), (.t 72))]⟩,
       ⟨(some 74), none, .load none (.t 1)⟩,
       ⟨(some 75), none, .nilCheck (.t 74)⟩,
       ⟨(some 76), none, .faddr 3 (.t 75)⟩,
       ⟨(some 77), none, .load none (.t 76)⟩,
       ⟨(some 78), none, .move (.t 6)⟩,
       ⟨(some 79), none, .iaddrS 22 (.t 77) (.t 78)⟩,
       ⟨(some 80), none, .faddr 0 (.t 79)⟩,
       ⟨(some 81), none, .call (.t 71) [(.t 73), (.t 80)]⟩,
       ⟨(some 82), none, .un .not (.t 81)⟩])
     (.cond (.t 82)
      (.ret)
      (.skip)))
     (.seq (.ops [⟨(some 83), none, .load none (.t 1)⟩,
       ⟨(some 84), none, .nilCheck (.t 83)⟩,
       ⟨(some 85), none, .faddr 3 (.t 84)⟩,
       ⟨(some 86), none, .load none (.t 85)⟩,
       ⟨(some 87), none, .move (.t 6)⟩,
       ⟨(some 88), none, .iaddrS 22 (.t 86) (.t 87)⟩,
       ⟨(some 89), none, .faddr 21 (.t 88)⟩,
       ⟨(some 90), none, .load none (.t 89)⟩,
       ⟨(some 91), none, .len (.t 90)⟩,
       ⟨(some 92), none, .move (.c (.sc (.int .i64 (0))))⟩])
     (.block 6 (.loop (.seq (.ops [⟨(some 93), none, .bin .lss (.t 92) (.t 91)⟩])
       (.seq (.cond (.t 93)
        (.skip)
        (.exit 6))
       (.seq (.block 7 (.seq (.ops [⟨(some 94), none, .move (.t 92)⟩,
          ⟨(some 7), none, .move (.t 94)⟩])
        (.seq (.ops [⟨(some 95), none, .load none (.t 1)⟩,
          ⟨(some 96), none, .nilCheck (.t 95)⟩,
          ⟨(some 97), none, .faddr 3 (.t 96)⟩,
          ⟨(some 98), none, .load none (.t 97)⟩,
          ⟨(some 99), none, .move (.t 6)⟩,
          ⟨(some 100), none, .iaddrS 22 (.t 98) (.t 99)⟩,
          ⟨(some 101), none, .faddr 21 (.t 100)⟩,
          ⟨(some 102), none, .load none (.t 101)⟩,
          ⟨(some 103), none, .move (.t 7)⟩,
          ⟨(some 104), none, .iaddrS 2 (.t 102) (.t 103)⟩,
          ⟨(some 105), none, .faddr 1 (.t 104)⟩,
          ⟨(some 106), none, .load none (.t 105)⟩,
          ⟨(some 107), none, .len (.t 106)⟩,
          ⟨(some 108), none, .move (.c (.sc (.int .i64 (0))))⟩])
        (.block 8 (.loop (.seq (.ops [⟨(some 109), none, .bin .lss (.t 108) (.t 107)⟩])
          (.seq (.cond (.t 109)
           (.skip)
           (.exit 8))
          (.seq (.block 9 (.seq (.ops [⟨(some 110), none, .move (.t 108)⟩,
             ⟨(some 8), none, .move (.t 110)⟩])
           (.seq (.ops [⟨(some 111), none, .load none (.t 1)⟩,
             ⟨(some 112), none, .nilCheck (.t 111)⟩,
             ⟨(some 113), none, .faddr 3 (.t 112)⟩,
             ⟨(some 114), none, .load none (.t 113)⟩,
             ⟨(some 115), none, .move (.t 6)⟩,
             ⟨(some 116), none, .iaddrS 22 (.t 114) (.t 115)⟩,
             ⟨(some 117), none, .faddr 21 (.t 116)⟩,
             ⟨(some 118), none, .load none (.t 117)⟩,
             ⟨(some 119), none, .move (.t 7)⟩,
             ⟨(some 120), none, .iaddrS 2 (.t 118) (.t 119)⟩,
             ⟨(some 121), none, .faddr 1 (.t 120)⟩,
             ⟨(some 122), none, .load none (.t 121)⟩,
             ⟨(some 123), none, .move (.t 8)⟩,
             ⟨(some 124), none, .iaddrS 2 (.t 122) (.t 123)⟩,
             ⟨(some 125), none, .faddr 0 (.t 124)⟩,
             ⟨(some 126), none, .load none (.t 125)⟩,
             ⟨(some 127), none, .len (.t 126)⟩,
             ⟨(some 128), none, .move (.c (.sc (.int .i64 (0))))⟩])
           (.block 10 (.loop (.seq (.ops [⟨(some 129), none, .bin .lss (.t 128) (.t 127)⟩])
             (.seq (.cond (.t 129)
              (.skip)
              (.exit 10))
             (.seq (.block 11 (.seq (.ops [⟨(some 130), none, .move (.t 128)⟩,
                ⟨(some 9), none, .move (.t 130)⟩])
              (.seq (.ops [⟨(some 131), none, .move (.t 0)⟩,
                ⟨(some 132), none, .move (.t 6)⟩,
                ⟨(some 133), none, .move (.t 7)⟩,
                ⟨(some 134), none, .move (.t 8)⟩,
                ⟨(some 135), none, .move (.t 9)⟩,
                ⟨(some 136), none, .build [(.sc (.int .i64 (0))), (.sc (.int .i64 (0))), (.sc (.int .i64 (0))), (.sc (.int .i64 (0))), (.sc (.int .i64 (0))), (.sc (.int .i64 (0))), (.sc (.int .i64 (0)))] [((0, 1), (.c (.sc (.int .i64 (4))))), ((3, 1), (.t 132)), ((2, 1), (.t 133)), ((4, 1), (.t 134)), ((5, 1), (.t 135))]⟩,
                ⟨(some 137), none, .load none (.t 1)⟩,
                ⟨(some 138), none, .nilCheck (.t 137)⟩,
                ⟨(some 139), none, .faddr 3 (.t 138)⟩,
                ⟨(some 140), none, .load none (.t 139)⟩,
                ⟨(some 141), none, .move (.t 6)⟩,
                ⟨(some 142), none, .iaddrS 22 (.t 140) (.t 141)⟩,
                ⟨(some 143), none, .faddr 21 (.t 142)⟩,
                ⟨(some 144), none, .load none (.t 143)⟩,
                ⟨(some 145), none, .move (.t 7)⟩,
                ⟨(some 146), none, .iaddrS 2 (.t 144) (.t 145)⟩,
                ⟨(some 147), none, .faddr 1 (.t 146)⟩,
                ⟨(some 148), none, .load none (.t 147)⟩,
                ⟨(some 149), none, .move (.t 8)⟩,
                ⟨(some 150), none, .iaddrS 2 (.t 148) (.t 149)⟩,
                ⟨(some 151), none, .faddr 0 (.t 150)⟩,
                ⟨(some 152), none, .load none (.t 151)⟩,
                ⟨(some 153), none, .move (.t 9)⟩,
                ⟨(some 154), none, .iaddrS 13 (.t 152) (.t 153)⟩,
                ⟨(some 155), none, .faddr 0 (.t 154)⟩,
                ⟨(some 156), none, .call (.t 131) [(.t 136), (.t 155)]⟩,
                ⟨(some 157), none, .un .not (.t 156)⟩])
              (.cond (.t 157)
               (.ret)
               (.skip)))))
             (.ops [⟨(some 158), none, .bin .add (.t 128) (.c (.sc (.int .i64 (1))))⟩,
               ⟨(some 128), none, .move (.t 158)⟩])))))))))
          (.ops [⟨(some 159), none, .bin .add (.t 108) (.c (.sc (.int .i64 (1))))⟩,
            ⟨(some 108), none, .move (.t 159)⟩])))))))))
       (.ops [⟨(some 160), none, .bin .add (.t 92) (.c (.sc (.int .i64 (1))))⟩,
         ⟨(some 92), none, .move (.t 160)⟩]))))))))))
    (.ops [⟨(some 161), none, .bin .add (.t 68) (.c (.sc (.int .i64 (1))))⟩,
      ⟨(some 68), none, .move (.t 161)⟩])))))))
  (.seq (.ops [⟨(some 162), none, .load none (.t 1)⟩,
    ⟨(some 163), none, .nilCheck (.t 162)⟩,
    ⟨(some 164), none, .faddr 4 (.t 163)⟩,
    ⟨(some 165), none, .load none (.t 164)⟩,
    ⟨(some 166), none, .len (.t 165)⟩,
    ⟨(some 167), none, .move (.c (.sc (.int .i64 (0))))⟩])
  (.block 12 (.loop (.seq (.ops [⟨(some 168), none, .bin .lss (.t 167) (.t 166)⟩])
    (.seq (.cond (.t 168)
     (.skip)
     (.exit 12))
    (.seq (.block 13 (.seq (.ops [⟨(some 169), none, .move (.t 167)⟩,
       ⟨(some 10), none, .move (.t 169)⟩])
     (.seq (.ops [⟨(some 170), none, .move (.t 0)⟩,
       ⟨(some 171), none, .move (.t 10)⟩,
       ⟨(some 172), none, .build [(.sc (.int .i64 (0))), (.sc (.int .i64 (0))), (.sc (.int .i64 (0))), (.sc (.int .i64 (0))), (.sc (.int .i64 (0))), (.sc (.int .i64 (0))), (.sc (.int .i64 (0)))] [((0, 1), (.c (.sc (.int .i64 (5))))), ((6, 1), (.t 171))]⟩,
       ⟨(some 173), none, .load none (.t 1)⟩,
       ⟨(some 174), none, .nilCheck (.t 173)⟩,
       ⟨(some 175), none, .faddr 4 (.t 174)⟩,
       ⟨(some 176), none, .load none (.t 175)⟩,
       ⟨(some 177), none, .move (.t 10)⟩,
       ⟨(some 178), none, .iaddrS 7 (.t 176) (.t 177)⟩,
       ⟨(some 179), none, .faddr 0 (.t 178)⟩,
       ⟨(some 180), none, .call (.t 170) [(.t 172), (.t 179)]⟩,
       ⟨(some 181), none, .un .not (.t 180)⟩])
     (.cond (.t 181)
      (.ret)
      (.skip)))))
    (.ops [⟨(some 182), none, .bin .add (.t 167) (.c (.sc (.int .i64 (1))))⟩,
      ⟨(some 167), none, .move (.t 182)⟩]))))))))),
  []⟩
theorem ok272 : EntryOk Tryz.prog 272 af272 := ⟨Tryz.f272, _, Tryz.func272, by decide, rfl, by kernel_rfl, by kernel_rfl, rfl⟩
/-- slices.IndexFunc[[]hemiola/api.Event,hemiola/api.Event] -/
noncomputable def af276 : AF := ⟨19, .seq (.ops [⟨(some 4), none, .move (.c (.sc (.int .i64 (0))))⟩])
  (.seq (.seq (.ops [⟨(some 6), none, .move (.t 0)⟩,
    ⟨(some 7), none, .len (.t 6)⟩,
    ⟨(some 8), none, .move (.c (.sc (.int .i64 (0))))⟩])
  (.block 0 (.loop (.seq (.ops [⟨(some 9), none, .bin .lss (.t 8) (.t 7)⟩])
    (.seq (.cond (.t 9)
     (.skip)
     (.exit 0))
    (.seq (.block 1 (.seq (.ops [⟨(some 10), none, .move (.t 8)⟩,
       ⟨(some 5), none, .move (.t 10)⟩])
     (.seq (.ops [⟨(some 11), none, .move (.t 1)⟩,
       ⟨(some 12), none, .move (.t 0)⟩,
       ⟨(some 13), none, .move (.t 5)⟩,
       ⟨(some 14), none, .iaddrS 13 (.t 12) (.t 13)⟩,
       ⟨(some 15), none, .load (some 13) (.t 14)⟩,
       ⟨(some 16), none, .call (.t 11) [(.t 15)]⟩])
     (.cond (.t 16)
      (.seq (.ops [⟨(some 17), none, .move (.t 5)⟩,
        ⟨(some 4), none, .move (.t 17)⟩])
      (.ret))
      (.skip)))))
    (.ops [⟨(some 18), none, .bin .add (.t 8) (.c (.sc (.int .i64 (1))))⟩,
      ⟨(some 8), none, .move (.t 18)⟩])))))))
  (.seq (.ops [⟨(some 4), none, .move (.c (.sc (.int .i64 (-1))))⟩])
  (.ret))),
  [.t 4]⟩
theorem ok276 : EntryOk Tryz.prog 276 af276 := ⟨Tryz.f276, _, Tryz.func276, by decide, rfl, by kernel_rfl, by kernel_rfl, rfl⟩
/-- hemiola/event.well -/
noncomputable def af281 : AF := ⟨17, .seq (.ops [⟨(some 1), none, .box (.t 0)⟩,
    ⟨(some 2), none, .move (.c (.sc (.int .i64 (0))))⟩])
  (.seq (.ops [⟨(some 6), none, .faddr 0 (.t 1)⟩,
    ⟨(some 7), none, .load (some 3) (.t 6)⟩,
    ⟨(some 8), none, .call (.c (.fn (.func 188) [] [])) [(.t 7)]⟩,
    ⟨(some 5), none, .move (.t 8)⟩,
    ⟨(some 9), none, .extract 0 (.t 5)⟩,
    ⟨(some 10), none, .extract 1 (.t 5)⟩,
    ⟨(some 3), none, .move (.t 9)⟩,
    ⟨(some 4), none, .move (.t 10)⟩])
  (.seq (.ops [⟨(some 11), none, .move (.t 4)⟩,
    ⟨(some 12), none, .faddr 4 (.t 1)⟩,
    ⟨(some 13), none, .load none (.t 12)⟩,
    ⟨(some 14), none, .call (.c (.fn (.func 220) [] [])) [(.t 13), (.c (.sc (.int .i64 (2))))]⟩,
    ⟨(some 15), none, .buildSl 1 [(.t 11), (.t 14)]⟩,
    ⟨(some 16), none, .call (.c (.fn (.func 219) [] [])) [(.t 15)]⟩,
    ⟨(some 2), none, .move (.t 16)⟩])
  (.ret))),
  [.t 2]⟩
theorem ok281 : EntryOk Tryz.prog 281 af281 := ⟨Tryz.f281, _, Tryz.func281, by decide, rfl, by kernel_rfl, by kernel_rfl, rfl⟩
/-- hemiola/tuplet.Units -/
noncomputable def af300 : AF := ⟨44, .seq (.ops [⟨(some 4), none, .move (.c (.sl true .full 0 []))⟩,
    ⟨(some 5), none, .move (.c (.sc (.int .i64 (0))))⟩])
  (.seq (.seq (.ops [⟨(some 13), none, .move (.t 0)⟩,
    ⟨(some 14), none, .move (.t 1)⟩,
    ⟨(some 15), none, .call (.c (.fn (.func 299) [] [])) [(.t 13), (.t 14)]⟩,
    ⟨(some 12), none, .move (.t 15)⟩,
    ⟨(some 16), none, .extract 0 (.t 12)⟩,
    ⟨(some 17), none, .extract 1 (.t 12)⟩,
    ⟨(some 6), none, .move (.t 16)⟩,
    ⟨(some 7), none, .move (.t 17)⟩])
  (.seq (.ops [⟨(some 18), none, .move (.t 7)⟩,
    ⟨(some 19), none, .bin .neq (.t 18) (.c (.sc (.int .i64 (0))))⟩])
  (.cond (.t 19)
   (.seq (.ops [⟨(some 20), none, .move (.t 7)⟩,
     ⟨(some 4), none, .move (.c (.sl true .full 0 []))⟩,
     ⟨(some 5), none, .move (.t 20)⟩])
   (.ret))
   (.skip))))
  (.seq (.ops [⟨(some 21), none, .move (.t 0)⟩,
    ⟨(some 22), none, .len (.t 21)⟩,
    ⟨(some 23), none, .mkSl 1 8 [(.sc (.int .i64 (0)))] (.c (.sc (.int .i64 (0)))) (.t 22)⟩,
    ⟨(some 8), none, .move (.t 23)⟩])
  (.seq (.seq (.ops [⟨(some 24), none, .move (.t 0)⟩,
    ⟨(some 25), none, .len (.t 24)⟩,
    ⟨(some 26), none, .move (.c (.sc (.int .i64 (0))))⟩])
  (.block 0 (.loop (.seq (.ops [⟨(some 27), none, .bin .lss (.t 26) (.t 25)⟩])
    (.seq (.cond (.t 27)
     (.skip)
     (.exit 0))
    (.seq (.block 1 (.seq (.ops [⟨(some 28), none, .move (.t 26)⟩,
       ⟨(some 9), none, .move (.t 28)⟩])
     (.seq (.ops [⟨(some 30), none, .move (.t 0)⟩,
       ⟨(some 31), none, .move (.t 9)⟩,
       ⟨(some 32), none, .move (.t 1)⟩,
       ⟨(some 33), none, .call (.c (.fn (.func 310) [] [])) [(.t 30), (.t 31), (.t 32)]⟩,
       ⟨(some 29), none, .move (.t 33)⟩,
       ⟨(some 34), none, .extract 0 (.t 29)⟩,
       ⟨(some 35), none, .extract 1 (.t 29)⟩,
       ⟨(some 10), none, .move (.t 34)⟩,
       ⟨(some 11), none, .move (.t 35)⟩])
     (.seq (.seq (.ops [⟨(some 36), none, .move (.t 11)⟩,
       ⟨(some 37), none, .un .not (.t 36)⟩])
     (.cond (.t 37)
      (.seq (.ops [⟨(some 4), none, .move (.c (.sl true .full 0 []))⟩,
        ⟨(some 5), none, .move (.c (.sc (.int .i64 (21))))⟩])
      (.ret))
      (.skip)))
     (.ops [⟨(some 38), none, .move (.t 8)⟩,
       ⟨(some 39), none, .move (.t 10)⟩,
       ⟨(some 40), none, .buildSl 1 [(.t 39)]⟩,
       ⟨(some 41), none, .append 1 8 (.t 38) (.t 40)⟩,
       ⟨(some 8), none, .move (.t 41)⟩])))))
    (.ops [⟨(some 42), none, .bin .add (.t 26) (.c (.sc (.int .i64 (1))))⟩,
      ⟨(some 26), none, .move (.t 42)⟩])))))))
  (.seq (.ops [⟨(some 43), none, .move (.t 8)⟩,
    ⟨(some 4), none, .move (.t 43)⟩,
    ⟨(some 5), none, .move (.c (.sc (.int .i64 (0))))⟩])
  (.ret))))),
  [.t 4, .t 5]⟩
theorem ok300 : EntryOk Tryz.prog 300 af300 := ⟨Tryz.f300, _, Tryz.func300, by decide, rfl, by kernel_rfl, by kernel_rfl, rfl⟩
/-- hemiola/tuplet.Check -/
noncomputable def af308 : AF := ⟨85, .seq (.ops [⟨(some 4), none, .move (.c (.sc (.int .i64 (0))))⟩])
  (.seq (.seq (.ops [⟨(some 9), none, .move (.t 1)⟩,
    ⟨(some 10), none, .bin .lss (.t 9) (.c (.sc (.int .i64 (0))))⟩,
    ⟨(some 11), none, .move (.t 10)⟩,
    ⟨(some 12), (some (11, false)), .move (.t 1)⟩,
    ⟨(some 13), (some (11, false)), .bin .gtr (.t 12) (.c (.sc (.int .i64 (128))))⟩,
    ⟨(some 14), none, .pick (.t 11) (.c (.sc (.bool true))) (.t 13)⟩])
  (.cond (.t 14)
   (.seq (.ops [⟨(some 4), none, .move (.c (.sc (.int .i64 (2))))⟩])
   (.ret))
   (.skip)))
  (.seq (.seq (.ops [⟨(some 15), none, .move (.t 0)⟩,
    ⟨(some 16), none, .len (.t 15)⟩,
    ⟨(some 17), none, .bin .gtr (.t 16) (.c (.sc (.int .i64 (16))))⟩])
  (.cond (.t 17)
   (.seq (.ops [⟨(some 4), none, .move (.c (.sc (.int .i64 (9))))⟩])
   (.ret))
   (.skip)))
  (.seq (.ops [⟨(some 5), none, .alloc [(.sl true .full 0 [])]⟩])
  (.seq (.ops [⟨(some 18), none, .mkFn (.func 313) [] [(.t 5)]⟩,
    ⟨(some 6), none, .move (.t 18)⟩])
  (.seq (.seq (.ops [⟨(some 19), none, .move (.t 0)⟩,
    ⟨(some 20), none, .len (.t 19)⟩,
    ⟨(some 21), none, .move (.c (.sc (.int .i64 (0))))⟩])
  (.block 0 (.loop (.seq (.ops [⟨(some 22), none, .bin .lss (.t 21) (.t 20)⟩])
    (.seq (.cond (.t 22)
     (.skip)
     (.exit 0))
    (.seq (.block 1 (.seq (.ops [⟨(some 23), none, .move (.t 21)⟩,
       ⟨(some 24), none, .iaddrS 4 (.t 19) (.t 21)⟩,
       ⟨(some 25), none, .load (some 4) (.t 24)⟩,
       ⟨(some 8), none, .alloc [(.sc (.int .i64 (0))), (.sc (.int .i64 (0))), (.sc (.int .i64 (0))), (.sc (.int .i64 (0)))]⟩,
       ⟨(some 7), none, .move (.t 23)⟩,
       ⟨none, none, .store 4 (.t 8) (.t 25)⟩])
     (.seq (.seq (.ops [⟨(some 26), none, .faddr 1 (.t 8)⟩,
       ⟨(some 27), none, .load none (.t 26)⟩,
       ⟨(some 28), none, .bin .lss (.t 27) (.c (.sc (.int .i64 (1))))⟩,
       ⟨(some 29), none, .move (.t 28)⟩,
       ⟨(some 30), (some (29, false)), .faddr 1 (.t 8)⟩,
       ⟨(some 31), (some (29, false)), .load none (.t 30)⟩,
       ⟨(some 32), (some (29, false)), .move (.t 1)⟩,
       ⟨(some 33), (some (29, false)), .bin .gtr (.t 31) (.t 32)⟩,
       ⟨(some 34), none, .pick (.t 29) (.c (.sc (.bool true))) (.t 33)⟩,
       ⟨(some 35), none, .move (.t 34)⟩,
       ⟨(some 36), (some (35, false)), .faddr 0 (.t 8)⟩,
       ⟨(some 37), (some (35, false)), .load none (.t 36)⟩,
       ⟨(some 38), (some (35, false)), .bin .lss (.t 37) (.c (.sc (.int .i64 (0))))⟩,
       ⟨(some 39), none, .pick (.t 35) (.c (.sc (.bool true))) (.t 38)⟩,
       ⟨(some 40), none, .move (.t 39)⟩,
       ⟨(some 41), (some (40, false)), .faddr 0 (.t 8)⟩,
       ⟨(some 42), (some (40, false)), .load none (.t 41)⟩,
       ⟨(some 43), (some (40, false)), .move (.t 1)⟩,
       ⟨(some 44), (some (40, false)), .faddr 1 (.t 8)⟩,
       ⟨(some 45), (some (40, false)), .load none (.t 44)⟩,
       ⟨(some 46), (some (40, false)), .bin .sub (.t 43) (.t 45)⟩,
       ⟨(some 47), (some (40, false)), .bin .gtr (.t 42) (.t 46)⟩,
       ⟨(some 48), none, .pick (.t 40) (.c (.sc (.bool true))) (.t 47)⟩,
       ⟨(some 49), none, .move (.t 48)⟩,
       ⟨(some 50), (some (49, false)), .faddr 2 (.t 8)⟩,
       ⟨(some 51), (some (49, false)), .load none (.t 50)⟩,
       ⟨(some 52), (some (49, false)), .call (.c (.fn (.func 315) [] [])) [(.t 51)]⟩,
       ⟨(some 53), (some (49, false)), .un .not (.t 52)⟩,
       ⟨(some 54), none, .pick (.t 49) (.c (.sc (.bool true))) (.t 53)⟩,
       ⟨(some 55), none, .move (.t 54)⟩,
       ⟨(some 56), (some (55, false)), .faddr 3 (.t 8)⟩,
       ⟨(some 57), (some (55, false)), .load none (.t 56)⟩,
       ⟨(some 58), (some (55, false)), .call (.c (.fn (.func 315) [] [])) [(.t 57)]⟩,
       ⟨(some 59), (some (55, false)), .un .not (.t 58)⟩,
       ⟨(some 60), none, .pick (.t 55) (.c (.sc (.bool true))) (.t 59)⟩,
       ⟨(some 61), none, .move (.t 60)⟩,
       ⟨(some 62), (some (61, false)), .faddr 2 (.t 8)⟩,
       ⟨(some 63), (some (61, false)), .load none (.t 62)⟩,
       ⟨(some 64), (some (61, false)), .faddr 3 (.t 8)⟩,
       ⟨(some 65), (some (61, false)), .load none (.t 64)⟩,
       ⟨(some 66), (some (61, false)), .bin .eql (.t 63) (.t 65)⟩,
       ⟨(some 67), none, .pick (.t 61) (.c (.sc (.bool true))) (.t 66)⟩])
     (.cond (.t 67)
      (.seq (.ops [⟨(some 4), none, .move (.c (.sc (.int .i64 (2))))⟩])
      (.ret))
      (.skip)))
     (.seq (.seq (.draw [⟨true, [7], [], ⟨(some 68), none, .move (.t 7)⟩⟩,
       ⟨true, [68], [], ⟨(some 69), none, .bin .gtr (.t 68) (.c (.sc (.int .i64 (0))))⟩⟩,
       ⟨true, [69], [], ⟨(some 70), none, .move (.t 69)⟩⟩,
       ⟨false, [0, 70], [], ⟨(some 71), (some (70, true)), .move (.t 0)⟩⟩,
       ⟨false, [7, 70], [], ⟨(some 72), (some (70, true)), .move (.t 7)⟩⟩,
       ⟨false, [72, 70], [], ⟨(some 73), (some (70, true)), .bin .sub (.t 72) (.c (.sc (.int .i64 (1))))⟩⟩,
       ⟨false, [71, 73, 70], [], ⟨(some 74), (some (70, true)), .iaddrS 4 (.t 71) (.t 73)⟩⟩,
       ⟨false, [74, 70], [], ⟨(some 75), (some (70, true)), .load (some 4) (.t 74)⟩⟩,
       ⟨false, [8, 70], [], ⟨(some 76), (some (70, true)), .load (some 4) (.t 8)⟩⟩]
       [⟨(some 77), (some (70, true)), .call (.c (.fn (.func 316) [] [])) [(.t 75), (.t 76)]⟩,
       ⟨(some 78), (some (70, true)), .bin .gtr (.t 77) (.c (.sc (.int .i64 (0))))⟩,
       ⟨(some 79), none, .pick (.t 70) (.t 78) (.c (.sc (.bool false)))⟩])
     (.cond (.t 79)
      (.seq (.ops [⟨(some 4), none, .move (.c (.sc (.int .i64 (25))))⟩])
      (.ret))
      (.skip)))
     (.seq (.ops [⟨(some 80), none, .move (.t 6)⟩,
       ⟨(some 81), none, .load (some 4) (.t 8)⟩,
       ⟨(some 82), none, .call (.t 80) [(.t 81)]⟩,
       ⟨(some 83), none, .un .not (.t 82)⟩])
     (.cond (.t 83)
      (.seq (.ops [⟨(some 4), none, .move (.c (.sc (.int .i64 (21))))⟩])
      (.ret))
      (.skip)))))))
    (.ops [⟨(some 84), none, .bin .add (.t 21) (.c (.sc (.int .i64 (1))))⟩,
      ⟨(some 21), none, .move (.t 84)⟩])))))))
  (.seq (.ops [⟨(some 4), none, .move (.c (.sc (.int .i64 (0))))⟩])
  (.ret))))))),
  [.t 4]⟩
theorem ok308 : EntryOk Tryz.prog 308 af308 := ⟨Tryz.f308, _, Tryz.func308, by decide, rfl, by kernel_rfl, by kernel_rfl, rfl⟩
/-- hemiola/duration.ticks -/
noncomputable def af318 : AF := ⟨21, .seq (.ops [⟨(some 1), none, .box (.t 0)⟩,
    ⟨(some 2), none, .move (.c (.sc (.int .i64 (0))))⟩])
  (.seq (.ops [⟨(some 5), none, .faddr 0 (.t 1)⟩,
    ⟨(some 6), none, .load none (.t 5)⟩,
    ⟨(some 7), none, .bin .add (.t 6) (.c (.sc (.int .i64 (1))))⟩,
    ⟨(some 8), none, .bin .shr (.c (.sc (.int .i64 (3870720)))) (.t 7)⟩,
    ⟨(some 3), none, .move (.t 8)⟩])
  (.seq (.ops [⟨(some 9), none, .move (.t 3)⟩,
    ⟨(some 4), none, .move (.t 9)⟩])
  (.seq (.seq (.ops [⟨(some 10), none, .faddr 1 (.t 1)⟩,
    ⟨(some 11), none, .load none (.t 10)⟩,
    ⟨(some 12), none, .move (.c (.sc (.int .i64 (0))))⟩])
  (.block 0 (.loop (.seq (.ops [⟨(some 13), none, .bin .lss (.t 12) (.t 11)⟩])
    (.seq (.cond (.t 13)
     (.skip)
     (.exit 0))
    (.seq (.block 1 (.seq (.ops [⟨(some 14), none, .move (.t 3)⟩,
       ⟨(some 15), none, .bin .quo (.t 14) (.c (.sc (.int .i64 (2))))⟩,
       ⟨(some 3), none, .move (.t 15)⟩])
     (.ops [⟨(some 16), none, .move (.t 4)⟩,
       ⟨(some 17), none, .move (.t 3)⟩,
       ⟨(some 18), none, .bin .add (.t 16) (.t 17)⟩,
       ⟨(some 4), none, .move (.t 18)⟩])))
    (.ops [⟨(some 19), none, .bin .add (.t 12) (.c (.sc (.int .i64 (1))))⟩,
      ⟨(some 12), none, .move (.t 19)⟩])))))))
  (.seq (.ops [⟨(some 20), none, .move (.t 4)⟩,
    ⟨(some 2), none, .move (.t 20)⟩])
  (.ret))))),
  [.t 2]⟩
theorem ok318 : EntryOk Tryz.prog 318 af318 := ⟨Tryz.f318, _, Tryz.func318, by decide, rfl, by kernel_rfl, by kernel_rfl, rfl⟩
end Go.Proofs.YtmbchdfgckmpoaaGreat
