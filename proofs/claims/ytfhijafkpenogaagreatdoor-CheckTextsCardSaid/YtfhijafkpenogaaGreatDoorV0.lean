/- Resolved code, printed by a program. -/
import Derived.Test.YtfhijafkpenogaaGreatDoorPE19
import Derived.Test.YtfhijafkpenogaaGreatDoorProg
namespace Go.Proofs.YtfhijafkpenogaaGreatDoor
open Go.PE

/-- hemiola/hemiolalaw16.known -/
noncomputable def af4 : AF := ⟨34, .seq (.ops [⟨(some 0), none, .move (.c (.sc (.bool false)))⟩])
  (.seq (.ops [⟨(some 3), none, .call (.c (.fn (.func 9) [] [])) []⟩,
    ⟨(some 1), none, .alloc [(.sc (.string ⟨#[]⟩)), (.sc (.bool false)), (.sl true .full 0 []), (.sl true .full 0 []), (.sl true .full 0 []), (.sl true .full 0 [])]⟩,
    ⟨none, none, .store 6 (.t 1) (.t 3)⟩])
  (.seq (.seq (.ops [⟨(some 4), none, .load (some 6) (.t 1)⟩,
    ⟨(some 5), none, .call (.c (.fn (.func 10) [] [])) [(.t 4)]⟩,
    ⟨(some 6), none, .un .not (.t 5)⟩])
  (.cond (.t 6)
   (.seq (.ops [⟨(some 0), none, .move (.c (.sc (.bool false)))⟩])
   (.ret))
   (.skip)))
  (.seq (.ops [⟨(some 7), none, .faddr 2 (.t 1)⟩,
    ⟨(some 8), none, .load none (.t 7)⟩,
    ⟨(some 9), none, .iaddrS 6 (.t 8) (.c (.sc (.int .i64 (0))))⟩,
    ⟨(some 10), none, .faddr 5 (.t 9)⟩,
    ⟨(some 11), none, .load none (.t 10)⟩,
    ⟨(some 12), none, .iaddrS 3 (.t 11) (.c (.sc (.int .i64 (0))))⟩,
    ⟨(some 13), none, .faddr 2 (.t 12)⟩,
    ⟨none, none, .store 1 (.t 13) (.c (.sc (.int .i64 (10))))⟩])
  (.seq (.ops [⟨(some 14), none, .load (some 6) (.t 1)⟩,
    ⟨(some 15), none, .call (.c (.fn (.func 11) [] [])) [(.t 14)]⟩,
    ⟨(some 2), none, .move (.t 15)⟩])
  (.seq (.ops [⟨(some 16), none, .move (.t 2)⟩,
    ⟨(some 17), none, .len (.t 16)⟩,
    ⟨(some 18), none, .bin .eql (.t 17) (.c (.sc (.int .i64 (1))))⟩,
    ⟨(some 19), none, .move (.t 18)⟩,
    ⟨(some 20), (some (19, true)), .move (.t 2)⟩,
    ⟨(some 21), (some (19, true)), .iaddrS 3 (.t 20) (.c (.sc (.int .i64 (0))))⟩,
    ⟨(some 22), (some (19, true)), .load (some 3) (.t 21)⟩,
    ⟨(some 23), (some (19, true)), .build [(.sc (.int .i64 (0))), (.sc (.int .i64 (0)))] [((1, 1), (.c (.sc (.int .i64 (2)))))]⟩,
    ⟨(some 24), (some (19, true)), .build [(.sc (.int .i64 (0))), (.sc (.int .i64 (0))), (.sc (.int .i64 (0)))] [((0, 1), (.c (.sc (.int .i64 (4))))), ((1, 2), (.t 23))]⟩,
    ⟨(some 25), (some (19, true)), .eqC [.i, .i, .i] false (.t 22) (.t 24)⟩,
    ⟨(some 26), none, .pick (.t 19) (.t 25) (.c (.sc (.bool false)))⟩,
    ⟨(some 27), none, .move (.t 26)⟩,
    ⟨(some 28), (some (27, true)), .move (.t 2)⟩,
    ⟨(some 29), (some (27, true)), .iaddrS 3 (.t 28) (.c (.sc (.int .i64 (0))))⟩,
    ⟨(some 30), (some (27, true)), .load (some 3) (.t 29)⟩,
    ⟨(some 31), (some (27, true)), .call (.c (.fn (.func 7) [] [])) [(.t 30)]⟩,
    ⟨(some 32), (some (27, true)), .bin .eql (.t 31) (.c (.sc (.string ⟨#[99, 108, 101, 102, 115, 32, 64, 48, 46, 50]⟩)))⟩,
    ⟨(some 33), none, .pick (.t 27) (.t 32) (.c (.sc (.bool false)))⟩,
    ⟨(some 0), none, .move (.t 33)⟩])
  (.ret)))))),
  [.t 0]⟩
theorem ok4 : EntryOk Tryz.prog 4 af4 := ⟨Tryz.f4, _, Tryz.func4, by decide, rfl, by kernel_rfl, by kernel_rfl, rfl⟩
/-- hemiola/check.Valid -/
noncomputable def af10 : AF := ⟨7, .seq (.ops [⟨(some 1), none, .box (.t 0)⟩,
    ⟨(some 2), none, .move (.c (.sc (.bool false)))⟩])
  (.seq (.ops [⟨(some 3), none, .load (some 6) (.t 1)⟩,
    ⟨(some 4), none, .call (.c (.fn (.func 16) [] [])) [(.t 3)]⟩,
    ⟨(some 5), none, .len (.t 4)⟩,
    ⟨(some 6), none, .bin .eql (.t 5) (.c (.sc (.int .i64 (0))))⟩,
    ⟨(some 2), none, .move (.t 6)⟩])
  (.ret)),
  [.t 2]⟩
theorem ok10 : EntryOk Tryz.prog 10 af10 := ⟨Tryz.f10, _, Tryz.func10, by decide, rfl, by kernel_rfl, by kernel_rfl, rfl⟩
/-- strconv.Itoa -/
noncomputable def af15 : AF := ⟨5, .seq (.ops [⟨(some 2), none, .move (.c (.sc (.string ⟨#[]⟩)))⟩])
  (.seq (.ops [⟨(some 3), none, .move (.t 0)⟩,
    ⟨(some 4), none, .call (.c (.fn (.func 17) [] [])) [(.t 3)]⟩,
    ⟨(some 2), none, .move (.t 4)⟩])
  (.ret)),
  [.t 2]⟩
theorem ok15 : EntryOk Tryz.prog 15 af15 := ⟨Tryz.f15, _, Tryz.func15, by decide, rfl, by kernel_rfl, by kernel_rfl, rfl⟩
/-- (*hemiola/check.checker).ids -/
noncomputable def af19 : AF := ⟨86, .seq (.ops [⟨(some 8), none, .mkMap⟩,
    ⟨(some 2), none, .move (.t 8)⟩])
  (.seq (.seq (.ops [⟨(some 9), none, .move (.t 0)⟩,
    ⟨(some 10), none, .nilCheck (.t 9)⟩,
    ⟨(some 11), none, .faddr 0 (.t 10)⟩,
    ⟨(some 12), none, .load (some 6) (.t 11)⟩,
    ⟨(some 13), none, .call (.c (.fn (.func 39) [] [])) [(.t 12)]⟩,
    ⟨(some 14), none, .len (.t 13)⟩,
    ⟨(some 15), none, .move (.c (.sc (.int .i64 (0))))⟩])
  (.block 0 (.loop (.seq (.ops [⟨(some 16), none, .bin .lss (.t 15) (.t 14)⟩])
    (.seq (.cond (.t 16)
     (.skip)
     (.exit 0))
    (.seq (.block 1 (.seq (.ops [⟨(some 17), none, .iaddrS 2 (.t 13) (.t 15)⟩,
       ⟨(some 18), none, .load (some 2) (.t 17)⟩,
       ⟨(some 4), none, .alloc [(.sc (.int .i64 (0))), (.sc (.int .i64 (0)))]⟩,
       ⟨none, none, .store 2 (.t 4) (.t 18)⟩])
     (.seq (.draw [⟨false, [0], ⟨(some 19), none, .move (.t 0)⟩⟩,
       ⟨false, [4], ⟨(some 20), none, .load (some 2) (.t 4)⟩⟩,
       ⟨false, [20], ⟨(some 21), none, .call (.c (.fn (.func 40) [] [])) [(.t 20)]⟩⟩,
       ⟨false, [21], ⟨(some 22), none, .un .not (.t 21)⟩⟩,
       ⟨false, [22], ⟨(some 23), none, .move (.t 22)⟩⟩,
       ⟨false, [2, 23], ⟨(some 24), (some (23, false)), .move (.t 2)⟩⟩,
       ⟨false, [4, 23], ⟨(some 25), (some (23, false)), .load (some 2) (.t 4)⟩⟩,
       ⟨false, [24, 25, 23], ⟨(some 26), (some (23, false)), .lookup [.i, .i] true (.sc (.bool false)) (.t 24) (.t 25) false⟩⟩,
       ⟨false, [23, 26], ⟨(some 27), none, .pick (.t 23) (.c (.sc (.bool true))) (.t 26)⟩⟩,
       ⟨false, [27], ⟨(some 28), none, .move (.t 27)⟩⟩,
       ⟨false, [4, 28], ⟨(some 29), (some (28, false)), .faddr 1 (.t 4)⟩⟩,
       ⟨false, [29, 28], ⟨(some 30), (some (28, false)), .load none (.t 29)⟩⟩,
       ⟨false, [0, 28], ⟨(some 31), (some (28, false)), .move (.t 0)⟩⟩,
       ⟨false, [31, 28], ⟨(some 32), (some (28, false)), .nilCheck (.t 31)⟩⟩,
       ⟨false, [32, 28], ⟨(some 33), (some (28, false)), .faddr 0 (.t 32)⟩⟩,
       ⟨false, [33, 28], ⟨(some 34), (some (28, false)), .load (some 6) (.t 33)⟩⟩,
       ⟨false, [4, 28], ⟨(some 35), (some (28, false)), .faddr 0 (.t 4)⟩⟩,
       ⟨false, [35, 28], ⟨(some 36), (some (28, false)), .load none (.t 35)⟩⟩,
       ⟨false, [34, 36, 28], ⟨(some 37), (some (28, false)), .call (.c (.fn (.func 41) [] [])) [(.t 34), (.t 36)]⟩⟩,
       ⟨false, [30, 37, 28], ⟨(some 38), (some (28, false)), .bin .gtr (.t 30) (.t 37)⟩⟩,
       ⟨false, [28, 38], ⟨(some 39), none, .pick (.t 28) (.c (.sc (.bool true))) (.t 38)⟩⟩,
       ⟨false, [4], ⟨(some 40), none, .load (some 2) (.t 4)⟩⟩]
       [⟨(some 41), none, .call (.c (.fn (.func 36) [] [])) [(.t 19), (.t 39), (.t 40)]⟩])
     (.ops [⟨(some 42), none, .move (.t 2)⟩,
       ⟨(some 43), none, .load (some 2) (.t 4)⟩,
       ⟨none, none, .mapUp [.i, .i] true (.t 42) (.t 43) (.c (.sc (.bool true)))⟩]))))
    (.ops [⟨(some 44), none, .bin .add (.t 15) (.c (.sc (.int .i64 (1))))⟩,
      ⟨(some 15), none, .move (.t 44)⟩])))))))
  (.seq (.ops [⟨(some 5), none, .move (.c (.sc (.bool false)))⟩])
  (.seq (.seq (.ops [⟨(some 45), none, .move (.t 0)⟩,
    ⟨(some 46), none, .nilCheck (.t 45)⟩,
    ⟨(some 47), none, .faddr 0 (.t 46)⟩,
    ⟨(some 48), none, .faddr 5 (.t 47)⟩,
    ⟨(some 49), none, .load none (.t 48)⟩,
    ⟨(some 50), none, .len (.t 49)⟩,
    ⟨(some 51), none, .move (.c (.sc (.int .i64 (0))))⟩])
  (.block 2 (.loop (.seq (.ops [⟨(some 52), none, .bin .lss (.t 51) (.t 50)⟩])
    (.seq (.cond (.t 52)
     (.skip)
     (.exit 2))
    (.seq (.block 3 (.seq (.ops [⟨(some 53), none, .move (.t 51)⟩,
       ⟨(some 54), none, .iaddrS 2 (.t 49) (.t 51)⟩,
       ⟨(some 55), none, .load (some 2) (.t 54)⟩,
       ⟨(some 7), none, .alloc [(.sc (.int .i64 (0))), (.sc (.int .i64 (0)))]⟩,
       ⟨(some 6), none, .move (.t 53)⟩,
       ⟨none, none, .store 2 (.t 7) (.t 55)⟩])
     (.draw [⟨true, [5], ⟨(some 56), none, .move (.t 5)⟩⟩,
       ⟨true, [56], ⟨(some 57), none, .move (.t 56)⟩⟩,
       ⟨true, [7, 57], ⟨(some 58), (some (57, false)), .load (some 2) (.t 7)⟩⟩,
       ⟨true, [58, 57], ⟨(some 59), (some (57, false)), .call (.c (.fn (.func 40) [] [])) [(.t 58)]⟩⟩,
       ⟨true, [59, 57], ⟨(some 60), (some (57, false)), .un .not (.t 59)⟩⟩,
       ⟨true, [57, 60], ⟨(some 61), none, .pick (.t 57) (.c (.sc (.bool true))) (.t 60)⟩⟩,
       ⟨true, [61], ⟨(some 62), none, .move (.t 61)⟩⟩,
       ⟨true, [6, 62], ⟨(some 63), (some (62, false)), .move (.t 6)⟩⟩,
       ⟨true, [63, 62], ⟨(some 64), (some (62, false)), .bin .gtr (.t 63) (.c (.sc (.int .i64 (0))))⟩⟩,
       ⟨true, [64, 62], ⟨(some 65), (some (62, false)), .move (.t 64)⟩⟩,
       ⟨false, [7, 65], ⟨(some 66), (some (65, true)), .faddr 0 (.t 7)⟩⟩,
       ⟨false, [66, 65], ⟨(some 67), (some (65, true)), .load none (.t 66)⟩⟩,
       ⟨false, [0, 65], ⟨(some 68), (some (65, true)), .move (.t 0)⟩⟩,
       ⟨false, [68, 65], ⟨(some 69), (some (65, true)), .nilCheck (.t 68)⟩⟩,
       ⟨false, [69, 65], ⟨(some 70), (some (65, true)), .faddr 0 (.t 69)⟩⟩,
       ⟨false, [70, 65], ⟨(some 71), (some (65, true)), .faddr 5 (.t 70)⟩⟩,
       ⟨false, [71, 65], ⟨(some 72), (some (65, true)), .load none (.t 71)⟩⟩,
       ⟨false, [6, 65], ⟨(some 73), (some (65, true)), .move (.t 6)⟩⟩,
       ⟨false, [73, 65], ⟨(some 74), (some (65, true)), .bin .sub (.t 73) (.c (.sc (.int .i64 (1))))⟩⟩,
       ⟨false, [72, 74, 65], ⟨(some 75), (some (65, true)), .iaddrS 2 (.t 72) (.t 74)⟩⟩,
       ⟨false, [75, 65], ⟨(some 76), (some (65, true)), .faddr 0 (.t 75)⟩⟩,
       ⟨false, [76, 65], ⟨(some 77), (some (65, true)), .load none (.t 76)⟩⟩]
       [⟨(some 78), (some (65, true)), .bin .leq (.t 67) (.t 77)⟩,
       ⟨(some 79), (some (62, false)), .pick (.t 65) (.t 78) (.c (.sc (.bool false)))⟩,
       ⟨(some 80), none, .pick (.t 62) (.c (.sc (.bool true))) (.t 79)⟩,
       ⟨(some 5), none, .move (.t 80)⟩])))
    (.ops [⟨(some 81), none, .bin .add (.t 51) (.c (.sc (.int .i64 (1))))⟩,
      ⟨(some 51), none, .move (.t 81)⟩])))))))
  (.ops [⟨(some 82), none, .move (.t 0)⟩,
    ⟨(some 83), none, .move (.t 5)⟩,
    ⟨(some 84), none, .build [(.sc (.int .i64 (0))), (.sc (.int .i64 (0)))] []⟩,
    ⟨(some 85), none, .call (.c (.fn (.func 36) [] [])) [(.t 82), (.t 83), (.t 84)]⟩])))),
  []⟩
theorem ok19 : EntryOk Tryz.prog 19 af19 := ⟨Tryz.f19, _, Tryz.func19, by decide, rfl, by kernel_rfl, by kernel_rfl, rfl⟩
/-- (*hemiola/check.checker).voices -/
noncomputable def af23 : AF := ⟨4, .ops [⟨(some 2), none, .move (.t 0)⟩,
    ⟨(some 3), none, .call (.c (.fn (.func 50) [] [])) [(.t 2), (.c (.fn (.func 51) [] []))]⟩],
  []⟩
theorem ok23 : EntryOk Tryz.prog 23 af23 := ⟨Tryz.f23, _, Tryz.func23, by decide, rfl, by kernel_rfl, by kernel_rfl, rfl⟩
/-- (*hemiola/check.checker).ties -/
noncomputable def af27 : AF := ⟨5, .seq (.ops [⟨(some 1), none, .box (.t 0)⟩])
  (.ops [⟨(some 2), none, .load none (.t 1)⟩,
    ⟨(some 3), none, .mkFn (.func 64) [] [(.t 1)]⟩,
    ⟨(some 4), none, .call (.c (.fn (.func 53) [] [])) [(.t 2), (.t 3)]⟩]),
  []⟩
theorem ok27 : EntryOk Tryz.prog 27 af27 := ⟨Tryz.f27, _, Tryz.func27, by decide, rfl, by kernel_rfl, by kernel_rfl, rfl⟩
/-- (*hemiola/check.checker).repeats -/
noncomputable def af31 : AF := ⟨80, .seq (.ops [⟨(some 8), none, .move (.t 0)⟩,
    ⟨(some 9), none, .nilCheck (.t 8)⟩,
    ⟨(some 10), none, .faddr 7 (.t 9)⟩,
    ⟨(some 11), none, .load none (.t 10)⟩,
    ⟨(some 12), none, .len (.t 11)⟩,
    ⟨(some 2), none, .move (.t 12)⟩])
  (.seq (.ops [⟨(some 13), none, .move (.t 0)⟩,
    ⟨(some 14), none, .call (.c (.fn (.func 43) [] [])) [(.t 13), (.c (.fn (.func 73) [] []))]⟩])
  (.seq (.seq (.ops [⟨(some 15), none, .move (.t 0)⟩,
    ⟨(some 16), none, .nilCheck (.t 15)⟩,
    ⟨(some 17), none, .faddr 7 (.t 16)⟩,
    ⟨(some 18), none, .load none (.t 17)⟩,
    ⟨(some 19), none, .len (.t 18)⟩,
    ⟨(some 20), none, .move (.t 2)⟩,
    ⟨(some 21), none, .bin .gtr (.t 19) (.t 20)⟩])
  (.cond (.t 21)
   (.ret)
   (.skip)))
  (.seq (.ops [⟨(some 3), none, .alloc [(.sc (.bool false)), (.sc (.int .i64 (0))), (.sc (.int .i64 (0))), (.sc (.int .i64 (0))), (.sc (.bool false)), (.sc (.int .i64 (0)))]⟩])
  (.seq (.ops [⟨(some 4), none, .move (.c (.sc (.bool true)))⟩])
  (.seq (.seq (.ops [⟨(some 22), none, .move (.t 0)⟩,
    ⟨(some 23), none, .nilCheck (.t 22)⟩,
    ⟨(some 24), none, .faddr 0 (.t 23)⟩,
    ⟨(some 25), none, .faddr 3 (.t 24)⟩,
    ⟨(some 26), none, .load none (.t 25)⟩,
    ⟨(some 27), none, .len (.t 26)⟩,
    ⟨(some 28), none, .move (.c (.sc (.int .i64 (0))))⟩])
  (.block 0 (.loop (.seq (.ops [⟨(some 29), none, .bin .lss (.t 28) (.t 27)⟩])
    (.seq (.cond (.t 29)
     (.skip)
     (.exit 0))
    (.seq (.block 1 (.seq (.ops [⟨(some 30), none, .iaddrS 22 (.t 26) (.t 28)⟩,
       ⟨(some 31), none, .load (some 22) (.t 30)⟩,
       ⟨(some 6), none, .alloc [(.sc (.int .i64 (0))), (.sc (.int .i64 (0))), (.sc (.int .i64 (0))), (.sc (.int .i64 (0))), (.sc (.int .i64 (0))), (.sc (.int .i64 (0))), (.sc (.int .i64 (0))), (.sc (.int .i64 (0))), (.sc (.int .i64 (0))), (.sc (.int .i64 (0))), (.sc (.int .i64 (0))), (.sc (.int .i64 (0))), (.sc (.bool false)), (.sc (.int .i64 (0))), (.sc (.int .i64 (0))), (.sc (.int .i64 (0))), (.sc (.int .i64 (0))), (.sc (.int .i64 (0))), (.sc (.int .i64 (0))), (.sc (.string ⟨#[]⟩)), (.sl true .full 0 []), (.sl true .full 0 [])]⟩,
       ⟨none, none, .store 22 (.t 6) (.t 31)⟩])
     (.seq (.ops [⟨(some 33), none, .load (some 6) (.t 3)⟩,
       ⟨(some 34), none, .load (some 22) (.t 6)⟩,
       ⟨(some 35), none, .call (.c (.fn (.func 74) [] [])) [(.t 33), (.t 34)]⟩,
       ⟨(some 32), none, .move (.t 35)⟩,
       ⟨(some 36), none, .extract 0 (.t 32)⟩,
       ⟨(some 37), none, .extract 1 (.t 32)⟩,
       ⟨none, none, .store 6 (.t 3) (.t 36)⟩,
       ⟨(some 4), none, .move (.t 37)⟩])
     (.seq (.ops [⟨(some 38), none, .move (.t 4)⟩,
       ⟨(some 39), none, .un .not (.t 38)⟩])
     (.cond (.t 39)
      (.seq (.ops [⟨(some 40), none, .move (.t 0)⟩,
        ⟨(some 41), none, .faddr 0 (.t 6)⟩,
        ⟨(some 42), none, .load (some 2) (.t 41)⟩,
        ⟨(some 43), none, .call (.c (.fn (.func 36) [] [])) [(.t 40), (.c (.sc (.bool true))), (.t 42)]⟩])
      (.ret))
      (.skip))))))
    (.ops [⟨(some 44), none, .bin .add (.t 28) (.c (.sc (.int .i64 (1))))⟩,
      ⟨(some 28), none, .move (.t 44)⟩])))))))
  (.seq (.ops [⟨(some 45), none, .faddr 0 (.t 3)⟩,
    ⟨(some 46), none, .load none (.t 45)⟩,
    ⟨(some 47), none, .move (.t 46)⟩,
    ⟨(some 48), (some (47, true)), .faddr 3 (.t 3)⟩,
    ⟨(some 49), (some (47, true)), .load none (.t 48)⟩,
    ⟨(some 50), (some (47, true)), .bin .eql (.t 49) (.c (.sc (.int .i64 (0))))⟩,
    ⟨(some 51), none, .pick (.t 47) (.t 50) (.c (.sc (.bool false)))⟩,
    ⟨(some 52), none, .move (.t 51)⟩,
    ⟨(some 53), (some (52, false)), .faddr 3 (.t 3)⟩,
    ⟨(some 54), (some (52, false)), .load none (.t 53)⟩,
    ⟨(some 55), (some (52, false)), .bin .neq (.t 54) (.c (.sc (.int .i64 (0))))⟩,
    ⟨(some 56), (some (52, false)), .move (.t 55)⟩,
    ⟨(some 57), (some (56, true)), .load (some 6) (.t 3)⟩,
    ⟨(some 58), (some (56, true)), .call (.c (.fn (.func 75) [] [])) [(.t 57)]⟩,
    ⟨(some 59), (some (56, true)), .un .not (.t 58)⟩,
    ⟨(some 60), (some (52, false)), .pick (.t 56) (.t 59) (.c (.sc (.bool false)))⟩,
    ⟨(some 61), none, .pick (.t 52) (.c (.sc (.bool true))) (.t 60)⟩,
    ⟨(some 7), none, .move (.t 61)⟩])
  (.draw [⟨false, [0], ⟨(some 62), none, .move (.t 0)⟩⟩,
    ⟨false, [7], ⟨(some 63), none, .move (.t 7)⟩⟩,
    ⟨false, [0], ⟨(some 64), none, .move (.t 0)⟩⟩,
    ⟨false, [64], ⟨(some 65), none, .nilCheck (.t 64)⟩⟩,
    ⟨false, [65], ⟨(some 66), none, .faddr 0 (.t 65)⟩⟩,
    ⟨false, [66], ⟨(some 67), none, .faddr 3 (.t 66)⟩⟩,
    ⟨false, [67], ⟨(some 68), none, .load none (.t 67)⟩⟩,
    ⟨false, [0], ⟨(some 69), none, .move (.t 0)⟩⟩,
    ⟨false, [69], ⟨(some 70), none, .nilCheck (.t 69)⟩⟩,
    ⟨false, [70], ⟨(some 71), none, .faddr 0 (.t 70)⟩⟩,
    ⟨false, [71], ⟨(some 72), none, .faddr 3 (.t 71)⟩⟩,
    ⟨false, [72], ⟨(some 73), none, .load none (.t 72)⟩⟩,
    ⟨false, [73], ⟨(some 74), none, .len (.t 73)⟩⟩,
    ⟨false, [74], ⟨(some 75), none, .bin .sub (.t 74) (.c (.sc (.int .i64 (1))))⟩⟩,
    ⟨true, [68, 75], ⟨(some 76), none, .iaddrS 22 (.t 68) (.t 75)⟩⟩,
    ⟨true, [76], ⟨(some 77), none, .faddr 0 (.t 76)⟩⟩,
    ⟨true, [77], ⟨(some 78), none, .load (some 2) (.t 77)⟩⟩]
    [⟨(some 79), none, .call (.c (.fn (.func 36) [] [])) [(.t 62), (.t 63), (.t 78)]⟩]))))))),
  []⟩
theorem ok31 : EntryOk Tryz.prog 31 af31 := ⟨Tryz.f31, _, Tryz.func31, by decide, rfl, by kernel_rfl, by kernel_rfl, rfl⟩
/-- internal/strconv.FormatInt -/
noncomputable def af35 : AF := ⟨54, .seq (.ops [⟨(some 4), none, .move (.c (.sc (.string ⟨#[]⟩)))⟩])
  (.seq (.seq (.ops [⟨(some 10), none, .move (.t 1)⟩,
    ⟨(some 11), none, .bin .eql (.t 10) (.c (.sc (.int .i64 (10))))⟩])
  (.cond (.t 11)
   (.seq (.seq (.ops [⟨(some 12), none, .move (.t 0)⟩,
     ⟨(some 13), none, .bin .leq (.c (.sc (.int .i64 (0)))) (.t 12)⟩,
     ⟨(some 14), none, .move (.t 13)⟩,
     ⟨(some 15), (some (14, true)), .move (.t 0)⟩,
     ⟨(some 16), (some (14, true)), .bin .lss (.t 15) (.c (.sc (.int .i64 (100))))⟩,
     ⟨(some 17), none, .pick (.t 14) (.t 16) (.c (.sc (.bool false)))⟩])
   (.cond (.t 17)
    (.seq (.ops [⟨(some 18), none, .move (.t 0)⟩,
      ⟨(some 19), none, .call (.c (.fn (.func 82) [] [])) [(.t 18)]⟩,
      ⟨(some 4), none, .move (.t 19)⟩])
    (.ret))
    (.skip)))
   (.seq (.ops [⟨(some 5), none, .alloc [(.sc (.int .u8 (0))), (.sc (.int .u8 (0))), (.sc (.int .u8 (0))), (.sc (.int .u8 (0))), (.sc (.int .u8 (0))), (.sc (.int .u8 (0))), (.sc (.int .u8 (0))), (.sc (.int .u8 (0))), (.sc (.int .u8 (0))), (.sc (.int .u8 (0))), (.sc (.int .u8 (0))), (.sc (.int .u8 (0))), (.sc (.int .u8 (0))), (.sc (.int .u8 (0))), (.sc (.int .u8 (0))), (.sc (.int .u8 (0))), (.sc (.int .u8 (0))), (.sc (.int .u8 (0))), (.sc (.int .u8 (0))), (.sc (.int .u8 (0))), (.sc (.int .u8 (0))), (.sc (.int .u8 (0))), (.sc (.int .u8 (0))), (.sc (.int .u8 (0)))]⟩])
   (.seq (.ops [⟨(some 20), none, .move (.t 0)⟩,
     ⟨(some 21), none, .convI .u64 (.t 20)⟩,
     ⟨(some 6), none, .move (.t 21)⟩])
   (.seq (.seq (.ops [⟨(some 22), none, .move (.t 0)⟩,
     ⟨(some 23), none, .bin .lss (.t 22) (.c (.sc (.int .i64 (0))))⟩])
   (.cond (.t 23)
    (.ops [⟨(some 24), none, .move (.t 6)⟩,
      ⟨(some 25), none, .un .neg (.t 24)⟩,
      ⟨(some 6), none, .move (.t 25)⟩])
    (.skip)))
   (.seq (.ops [⟨(some 26), none, .move (.t 6)⟩,
     ⟨(some 27), none, .call (.c (.fn (.func 83) [] [])) [(.t 26)]⟩,
     ⟨(some 7), none, .move (.t 27)⟩])
   (.seq (.ops [⟨(some 28), none, .move (.t 7)⟩,
     ⟨(some 29), none, .bin .add (.c (.sc (.int .i64 (1)))) (.t 28)⟩,
     ⟨(some 30), none, .bad⟩,
     ⟨(some 31), none, .move (.t 6)⟩,
     ⟨(some 32), none, .call (.c (.fn (.func 84) [] [])) [(.t 30), (.t 31)]⟩])
   (.seq (.seq (.ops [⟨(some 33), none, .move (.t 0)⟩,
     ⟨(some 34), none, .bin .lss (.t 33) (.c (.sc (.int .i64 (0))))⟩])
   (.cond (.t 34)
    (.seq (.ops [⟨(some 35), none, .iaddrA 1 24 (.t 5) (.c (.sc (.int .i64 (0))))⟩,
      ⟨none, none, .store 1 (.t 35) (.c (.sc (.int .u8 (45))))⟩])
    (.seq (.ops [⟨(some 36), none, .move (.t 7)⟩,
      ⟨(some 37), none, .bin .add (.c (.sc (.int .i64 (1)))) (.t 36)⟩,
      ⟨(some 38), none, .bad⟩,
      ⟨(some 39), none, .bytesStr (.t 38)⟩,
      ⟨(some 4), none, .move (.t 39)⟩])
    (.ret)))
    (.skip)))
   (.seq (.ops [⟨(some 40), none, .move (.t 7)⟩,
     ⟨(some 41), none, .bin .add (.c (.sc (.int .i64 (1)))) (.t 40)⟩,
     ⟨(some 42), none, .bad⟩,
     ⟨(some 43), none, .bytesStr (.t 42)⟩,
     ⟨(some 4), none, .move (.t 43)⟩])
   (.ret)))))))))
   (.skip)))
  (.seq (.ops [⟨(some 45), none, .move (.t 0)⟩,
    ⟨(some 46), none, .convI .u64 (.t 45)⟩,
    ⟨(some 47), none, .move (.t 1)⟩,
    ⟨(some 48), none, .move (.t 0)⟩,
    ⟨(some 49), none, .bin .lss (.t 48) (.c (.sc (.int .i64 (0))))⟩,
    ⟨(some 50), none, .call (.c (.fn (.func 85) [] [])) [(.c (.sl true .full 0 [])), (.t 46), (.t 47), (.t 49), (.c (.sc (.bool false)))]⟩,
    ⟨(some 44), none, .move (.t 50)⟩,
    ⟨(some 51), none, .extract 0 (.t 44)⟩,
    ⟨(some 52), none, .extract 1 (.t 44)⟩,
    ⟨(some 8), none, .move (.t 51)⟩,
    ⟨(some 9), none, .move (.t 52)⟩])
  (.seq (.ops [⟨(some 53), none, .move (.t 9)⟩,
    ⟨(some 4), none, .move (.t 53)⟩])
  (.ret)))),
  [.t 4]⟩
theorem ok35 : EntryOk Tryz.prog 35 af35 := ⟨Tryz.f35, _, Tryz.func35, by decide, rfl, by kernel_rfl, by kernel_rfl, rfl⟩
/-- hemiola/score.IDs -/
noncomputable def af39 : AF := ⟨16, .seq (.ops [⟨(some 1), none, .box (.t 0)⟩,
    ⟨(some 2), none, .move (.c (.sl true .full 0 []))⟩])
  (.seq (.ops [⟨(some 3), none, .alloc [(.sl true .full 0 [])]⟩])
  (.seq (.seq (.ops [⟨(some 6), none, .call (.c (.fn (.func 88) [] [])) [(.t 1)]⟩])
  (.block 0 (.range (.t 6) #[7, 8]
    (.ops [⟨(some 5), none, .move (.t 8)⟩])
    (.block 1 (.draw [⟨false, [3], ⟨(some 9), none, .load none (.t 3)⟩⟩,
       ⟨false, [5], ⟨(some 10), none, .move (.t 5)⟩⟩,
       ⟨false, [10], ⟨(some 11), none, .nilCheck (.t 10)⟩⟩,
       ⟨false, [11], ⟨(some 12), none, .load (some 2) (.t 11)⟩⟩,
       ⟨false, [12], ⟨(some 13), none, .buildSl 2 [(.t 12)]⟩⟩]
       [⟨(some 14), none, .append 2 16 (.t 9) (.t 13)⟩,
       ⟨none, none, .store 1 (.t 3) (.t 14)⟩]))
    (codeAt (Tryz.f39.body.getD .skip) [1, 1, 0, 1, 0, 0]) (codeAt (Tryz.f39.body.getD .skip) [1, 1, 0, 1, 0, 1]))))
  (.seq (.ops [⟨(some 15), none, .load none (.t 3)⟩,
    ⟨(some 2), none, .move (.t 15)⟩])
  (.ret)))),
  [.t 2]⟩
theorem ok39 : EntryOk Tryz.prog 39 af39 := ⟨Tryz.f39, _, Tryz.func39, by decide, rfl, by kernel_rfl, by kernel_rfl, rfl⟩
/-- (*hemiola/check.checker).measures -/
noncomputable def af43 : AF := ⟨26, .seq (.ops [⟨(some 6), none, .move (.t 0)⟩,
    ⟨(some 7), none, .nilCheck (.t 6)⟩,
    ⟨(some 8), none, .faddr 0 (.t 7)⟩,
    ⟨(some 9), none, .faddr 3 (.t 8)⟩,
    ⟨(some 10), none, .load none (.t 9)⟩,
    ⟨(some 11), none, .len (.t 10)⟩,
    ⟨(some 12), none, .move (.c (.sc (.int .i64 (0))))⟩])
  (.block 0 (.loop (.seq (.ops [⟨(some 13), none, .bin .lss (.t 12) (.t 11)⟩])
    (.seq (.cond (.t 13)
     (.skip)
     (.exit 0))
    (.seq (.block 1 (.seq (.ops [⟨(some 14), none, .move (.t 12)⟩,
       ⟨(some 15), none, .iaddrS 22 (.t 10) (.t 12)⟩,
       ⟨(some 16), none, .load (some 22) (.t 15)⟩,
       ⟨(some 5), none, .alloc [(.sc (.int .i64 (0))), (.sc (.int .i64 (0))), (.sc (.int .i64 (0))), (.sc (.int .i64 (0))), (.sc (.int .i64 (0))), (.sc (.int .i64 (0))), (.sc (.int .i64 (0))), (.sc (.int .i64 (0))), (.sc (.int .i64 (0))), (.sc (.int .i64 (0))), (.sc (.int .i64 (0))), (.sc (.int .i64 (0))), (.sc (.bool false)), (.sc (.int .i64 (0))), (.sc (.int .i64 (0))), (.sc (.int .i64 (0))), (.sc (.int .i64 (0))), (.sc (.int .i64 (0))), (.sc (.int .i64 (0))), (.sc (.string ⟨#[]⟩)), (.sl true .full 0 []), (.sl true .full 0 [])]⟩,
       ⟨(some 4), none, .move (.t 14)⟩,
       ⟨none, none, .store 22 (.t 5) (.t 16)⟩])
     (.draw [⟨false, [0], ⟨(some 17), none, .move (.t 0)⟩⟩,
       ⟨false, [1], ⟨(some 18), none, .move (.t 1)⟩⟩,
       ⟨false, [4], ⟨(some 19), none, .move (.t 4)⟩⟩,
       ⟨false, [5], ⟨(some 20), none, .load (some 22) (.t 5)⟩⟩,
       ⟨false, [18, 19, 20], ⟨(some 21), none, .call (.t 18) [(.t 19), (.t 20)]⟩⟩,
       ⟨false, [5], ⟨(some 22), none, .faddr 0 (.t 5)⟩⟩,
       ⟨false, [22], ⟨(some 23), none, .load (some 2) (.t 22)⟩⟩]
       [⟨(some 24), none, .call (.c (.fn (.func 36) [] [])) [(.t 17), (.t 21), (.t 23)]⟩])))
    (.ops [⟨(some 25), none, .bin .add (.t 12) (.c (.sc (.int .i64 (1))))⟩,
      ⟨(some 12), none, .move (.t 25)⟩])))))),
  []⟩
theorem ok43 : EntryOk Tryz.prog 43 af43 := ⟨Tryz.f43, _, Tryz.func43, by decide, rfl, by kernel_rfl, by kernel_rfl, rfl⟩
/-- hemiola/measure.Length -/
noncomputable def af47 : AF := ⟨34, .seq (.ops [⟨(some 1), none, .box (.t 0)⟩,
    ⟨(some 2), none, .move (.c (.sc (.int .i64 (0))))⟩,
    ⟨(some 3), none, .move (.c (.sc (.int .i64 (0))))⟩])
  (.seq (.ops [⟨(some 7), none, .faddr 2 (.t 1)⟩,
    ⟨(some 8), none, .load (some 8) (.t 7)⟩,
    ⟨(some 9), none, .call (.c (.fn (.func 90) [] [])) [(.t 8)]⟩,
    ⟨(some 6), none, .move (.t 9)⟩,
    ⟨(some 10), none, .extract 0 (.t 6)⟩,
    ⟨(some 11), none, .extract 1 (.t 6)⟩,
    ⟨(some 4), none, .move (.t 10)⟩,
    ⟨(some 5), none, .move (.t 11)⟩])
  (.seq (.block 0 (.seq (.ops [⟨(some 13), none, .move (.t 5)⟩,
     ⟨(some 14), none, .bin .neq (.t 13) (.c (.sc (.int .i64 (0))))⟩,
     ⟨(some 12), none, .move (.t 14)⟩])
   (.cond (.t 12)
    (.seq (.ops [⟨(some 15), none, .move (.t 5)⟩,
      ⟨(some 2), none, .move (.c (.sc (.int .i64 (0))))⟩,
      ⟨(some 3), none, .move (.t 15)⟩])
    (.ret))
    (.seq (.ops [⟨(some 17), none, .faddr 10 (.t 1)⟩,
      ⟨(some 18), none, .load none (.t 17)⟩,
      ⟨(some 19), none, .bin .lss (.t 18) (.c (.sc (.int .i64 (0))))⟩,
      ⟨(some 16), none, .move (.t 19)⟩])
    (.cond (.t 16)
     (.seq (.ops [⟨(some 2), none, .move (.c (.sc (.int .i64 (0))))⟩,
       ⟨(some 3), none, .move (.c (.sc (.int .i64 (2))))⟩])
     (.ret))
     (.seq (.ops [⟨(some 21), none, .faddr 10 (.t 1)⟩,
       ⟨(some 22), none, .load none (.t 21)⟩,
       ⟨(some 23), none, .bin .gtr (.t 22) (.c (.sc (.int .i64 (0))))⟩,
       ⟨(some 20), none, .move (.t 23)⟩])
     (.cond (.t 20)
      (.ops [⟨(some 24), none, .faddr 10 (.t 1)⟩,
        ⟨(some 25), none, .load none (.t 24)⟩,
        ⟨(some 4), none, .move (.t 25)⟩])
      (.skip))))))))
  (.seq (.block 1 (.seq (.ops [⟨(some 27), none, .move (.t 4)⟩,
     ⟨(some 28), none, .bin .rem (.t 27) (.c (.sc (.int .i64 (7560))))⟩,
     ⟨(some 29), none, .bin .neq (.t 28) (.c (.sc (.int .i64 (0))))⟩,
     ⟨(some 26), none, .move (.t 29)⟩])
   (.cond (.t 26)
    (.seq (.ops [⟨(some 2), none, .move (.c (.sc (.int .i64 (0))))⟩,
      ⟨(some 3), none, .move (.c (.sc (.int .i64 (16))))⟩])
    (.ret))
    (.seq (.ops [⟨(some 31), none, .move (.t 4)⟩,
      ⟨(some 32), none, .bin .gtr (.t 31) (.c (.sc (.int .i64 (15482880))))⟩,
      ⟨(some 30), none, .move (.t 32)⟩])
    (.cond (.t 30)
     (.seq (.ops [⟨(some 2), none, .move (.c (.sc (.int .i64 (0))))⟩,
       ⟨(some 3), none, .move (.c (.sc (.int .i64 (5))))⟩])
     (.ret))
     (.skip))))))
  (.seq (.ops [⟨(some 33), none, .move (.t 4)⟩,
    ⟨(some 2), none, .move (.t 33)⟩,
    ⟨(some 3), none, .move (.c (.sc (.int .i64 (0))))⟩])
  (.ret))))),
  [.t 2, .t 3]⟩
theorem ok47 : EntryOk Tryz.prog 47 af47 := ⟨Tryz.f47, _, Tryz.func47, by decide, rfl, by kernel_rfl, by kernel_rfl, rfl⟩
/-- (*hemiola/check.checker).tuplets$1 -/
noncomputable def af52 : AF := ⟨10, .seq (.ops [⟨(some 2), none, .move (.c (.sc (.bool false)))⟩])
  (.seq (.ops [⟨(some 3), none, .move (.t 0)⟩,
    ⟨(some 4), none, .bin .neq (.t 3) (.c (.sc (.int .i64 (0))))⟩,
    ⟨(some 5), none, .move (.t 4)⟩,
    ⟨(some 6), (some (5, true)), .move (.t 0)⟩,
    ⟨(some 7), (some (5, true)), .call (.c (.fn (.func 51) [] [])) [(.t 6)]⟩,
    ⟨(some 8), (some (5, true)), .un .not (.t 7)⟩,
    ⟨(some 9), none, .pick (.t 5) (.t 8) (.c (.sc (.bool false)))⟩,
    ⟨(some 2), none, .move (.t 9)⟩])
  (.ret)),
  [.t 2]⟩
theorem ok52 : EntryOk Tryz.prog 52 af52 := ⟨Tryz.f52, _, Tryz.func52, by decide, rfl, by kernel_rfl, by kernel_rfl, rfl⟩
/-- (*hemiola/check.checker).pitches$1 -/
noncomputable def af56 : AF := ⟨55, .seq (.ops [⟨(some 3), none, .box (.t 0)⟩,
    ⟨(some 4), none, .box (.t 1)⟩,
    ⟨(some 5), none, .move (.c (.sc (.bool false)))⟩])
  (.seq (.seq (.ops [⟨(some 11), none, .load (some 13) (.t 4)⟩,
    ⟨(some 12), none, .call (.c (.fn (.func 55) [] [])) [(.t 11)]⟩,
    ⟨(some 13), none, .bin .neq (.t 12) (.c (.sc (.int .i64 (0))))⟩])
  (.cond (.t 13)
   (.seq (.ops [⟨(some 5), none, .move (.c (.sc (.bool false)))⟩])
   (.ret))
   (.skip)))
  (.seq (.ops [⟨(some 6), none, .alloc [(.sc (.int .i64 (0)))]⟩,
    ⟨none, none, .store 1 (.t 6) (.c (.sc (.int .i64 (0))))⟩])
  (.seq (.seq (.draw [⟨false, [2], ⟨(some 15), none, .load none (.t 2)⟩⟩,
    ⟨false, [15], ⟨(some 16), none, .nilCheck (.t 15)⟩⟩,
    ⟨false, [16], ⟨(some 17), none, .faddr 0 (.t 16)⟩⟩,
    ⟨false, [17], ⟨(some 18), none, .load (some 6) (.t 17)⟩⟩,
    ⟨false, [3], ⟨(some 19), none, .faddr 2 (.t 3)⟩⟩,
    ⟨false, [19], ⟨(some 20), none, .load none (.t 19)⟩⟩,
    ⟨true, [18, 20], ⟨(some 21), none, .call (.c (.fn (.func 57) [] [])) [(.t 18), (.t 20)]⟩⟩,
    ⟨true, [21], ⟨(some 14), none, .move (.t 21)⟩⟩,
    ⟨true, [14], ⟨(some 22), none, .extract 0 (.t 14)⟩⟩,
    ⟨true, [14], ⟨(some 23), none, .extract 1 (.t 14)⟩⟩,
    ⟨true, [14], ⟨(some 24), none, .extract 2 (.t 14)⟩⟩,
    ⟨true, [22], ⟨(some 7), none, .move (.t 22)⟩⟩,
    ⟨true, [23], ⟨(some 8), none, .move (.t 23)⟩⟩]
    [⟨(some 9), none, .move (.t 24)⟩])
  (.seq (.ops [⟨(some 25), none, .move (.t 9)⟩,
    ⟨(some 26), none, .bin .eql (.t 25) (.c (.sc (.int .i64 (0))))⟩])
  (.cond (.t 26)
   (.ops [⟨(some 27), none, .load none (.t 2)⟩,
     ⟨(some 28), none, .nilCheck (.t 27)⟩,
     ⟨(some 29), none, .faddr 0 (.t 28)⟩,
     ⟨(some 30), none, .faddr 2 (.t 29)⟩,
     ⟨(some 31), none, .load none (.t 30)⟩,
     ⟨(some 32), none, .move (.t 7)⟩,
     ⟨(some 33), none, .iaddrS 6 (.t 31) (.t 32)⟩,
     ⟨(some 34), none, .faddr 3 (.t 33)⟩,
     ⟨(some 35), none, .faddr 1 (.t 34)⟩,
     ⟨(some 36), none, .load none (.t 35)⟩,
     ⟨none, none, .store 1 (.t 6) (.t 36)⟩])
   (.skip))))
  (.seq (.seq (.ops [⟨(some 37), none, .load none (.t 2)⟩,
    ⟨(some 38), none, .nilCheck (.t 37)⟩,
    ⟨(some 39), none, .faddr 0 (.t 38)⟩,
    ⟨(some 40), none, .faddr 1 (.t 39)⟩,
    ⟨(some 41), none, .load none (.t 40)⟩])
  (.cond (.t 41)
   (.ops [⟨(some 42), none, .load none (.t 6)⟩,
     ⟨(some 43), none, .un .neg (.t 42)⟩,
     ⟨none, none, .store 1 (.t 6) (.t 43)⟩])
   (.skip)))
  (.seq (.ops [⟨(some 44), none, .mkFn (.func 58) [] [(.t 6)]⟩,
    ⟨(some 10), none, .alloc [(.sc .nilFunc)]⟩,
    ⟨none, none, .store 1 (.t 10) (.t 44)⟩])
  (.seq (.ops [⟨(some 45), none, .faddr 5 (.t 4)⟩,
    ⟨(some 46), none, .load none (.t 45)⟩,
    ⟨(some 47), none, .mkFn (.func 61) [] [(.t 10)]⟩,
    ⟨(some 48), none, .call (.c (.fn (.func 60) [] [])) [(.t 46), (.t 47)]⟩,
    ⟨(some 49), none, .move (.t 48)⟩,
    ⟨(some 50), (some (49, false)), .faddr 6 (.t 4)⟩,
    ⟨(some 51), (some (49, false)), .load none (.t 50)⟩,
    ⟨(some 52), (some (49, false)), .mkFn (.func 63) [] [(.t 10)]⟩,
    ⟨(some 53), (some (49, false)), .call (.c (.fn (.func 62) [] [])) [(.t 51), (.t 52)]⟩,
    ⟨(some 54), none, .pick (.t 49) (.c (.sc (.bool true))) (.t 53)⟩,
    ⟨(some 5), none, .move (.t 54)⟩])
  (.ret))))))),
  [.t 5]⟩
theorem ok56 : EntryOk Tryz.prog 56 af56 := ⟨Tryz.f56, _, Tryz.func56, by decide, rfl, by kernel_rfl, by kernel_rfl, rfl⟩
/-- (*hemiola/check.checker).ties$1 -/
noncomputable def af64 : AF := ⟨39, .seq (.ops [⟨(some 3), none, .box (.t 0)⟩,
    ⟨(some 4), none, .box (.t 1)⟩,
    ⟨(some 5), none, .move (.c (.sc (.bool false)))⟩])
  (.seq (.seq (.ops [⟨(some 10), none, .load (some 13) (.t 4)⟩,
    ⟨(some 11), none, .call (.c (.fn (.func 65) [] [])) [(.t 10)]⟩,
    ⟨(some 12), none, .un .not (.t 11)⟩])
  (.cond (.t 12)
   (.seq (.ops [⟨(some 5), none, .move (.c (.sc (.bool false)))⟩])
   (.ret))
   (.skip)))
  (.seq (.draw [⟨false, [2], ⟨(some 14), none, .load none (.t 2)⟩⟩,
    ⟨false, [14], ⟨(some 15), none, .nilCheck (.t 14)⟩⟩,
    ⟨false, [15], ⟨(some 16), none, .faddr 0 (.t 15)⟩⟩,
    ⟨false, [16], ⟨(some 17), none, .load (some 6) (.t 16)⟩⟩,
    ⟨false, [3], ⟨(some 18), none, .load (some 7) (.t 3)⟩⟩,
    ⟨false, [17, 18], ⟨(some 19), none, .call (.c (.fn (.func 66) [] [])) [(.t 17), (.t 18)]⟩⟩,
    ⟨false, [19], ⟨(some 13), none, .move (.t 19)⟩⟩,
    ⟨false, [13], ⟨(some 20), none, .extract 0 (.t 13)⟩⟩,
    ⟨false, [13], ⟨(some 21), none, .extract 1 (.t 13)⟩⟩,
    ⟨false, [], ⟨(some 6), none, .alloc [(.sc (.int .i64 (0))), (.sc (.int .i64 (0))), (.sc (.int .i64 (0))), (.sc (.int .i64 (0))), (.sc (.int .i64 (0))), (.sc (.int .i64 (0))), (.sc (.int .i64 (0)))]⟩⟩,
    ⟨true, [6, 20], ⟨none, none, .store 7 (.t 6) (.t 20)⟩⟩]
    [⟨(some 7), none, .move (.t 21)⟩])
  (.seq (.draw [⟨false, [2], ⟨(some 23), none, .load none (.t 2)⟩⟩,
    ⟨false, [23], ⟨(some 24), none, .nilCheck (.t 23)⟩⟩,
    ⟨false, [24], ⟨(some 25), none, .faddr 0 (.t 24)⟩⟩,
    ⟨false, [25], ⟨(some 26), none, .load (some 6) (.t 25)⟩⟩,
    ⟨false, [6], ⟨(some 27), none, .load (some 7) (.t 6)⟩⟩,
    ⟨false, [26, 27], ⟨(some 28), none, .call (.c (.fn (.func 67) [] [])) [(.t 26), (.t 27)]⟩⟩,
    ⟨false, [28], ⟨(some 22), none, .move (.t 28)⟩⟩,
    ⟨false, [22], ⟨(some 29), none, .extract 0 (.t 22)⟩⟩,
    ⟨false, [22], ⟨(some 30), none, .extract 1 (.t 22)⟩⟩,
    ⟨false, [], ⟨(some 8), none, .alloc [(.sc (.int .i64 (0))), (.sc (.int .i64 (0))), (.sc (.int .i64 (0))), (.sc (.int .i64 (0))), (.sc (.int .i64 (0))), (.sl true .full 0 []), (.sl true .full 0 []), (.sc (.int .i64 (0))), (.sc (.int .i64 (0))), (.sc (.int .i64 (0))), (.sl true .full 0 []), (.sc (.int .i64 (0))), (.sc (.int .i64 (0)))]⟩⟩,
    ⟨true, [8, 29], ⟨none, none, .store 13 (.t 8) (.t 29)⟩⟩]
    [⟨(some 9), none, .move (.t 30)⟩])
  (.seq (.ops [⟨(some 31), none, .move (.t 7)⟩,
    ⟨(some 32), none, .un .not (.t 31)⟩,
    ⟨(some 33), none, .move (.t 32)⟩,
    ⟨(some 34), (some (33, false)), .load (some 13) (.t 4)⟩,
    ⟨(some 35), (some (33, false)), .load (some 13) (.t 8)⟩,
    ⟨(some 36), (some (33, false)), .call (.c (.fn (.func 68) [] [])) [(.t 34), (.t 35)]⟩,
    ⟨(some 37), (some (33, false)), .un .not (.t 36)⟩,
    ⟨(some 38), none, .pick (.t 33) (.c (.sc (.bool true))) (.t 37)⟩,
    ⟨(some 5), none, .move (.t 38)⟩])
  (.ret))))),
  [.t 5]⟩
theorem ok64 : EntryOk Tryz.prog 64 af64 := ⟨Tryz.f64, _, Tryz.func64, by decide, rfl, by kernel_rfl, by kernel_rfl, rfl⟩
/-- (*hemiola/check.checker).lyrics$1 -/
noncomputable def af70 : AF := ⟨9, .seq (.ops [⟨(some 3), none, .box (.t 0)⟩,
    ⟨(some 4), none, .box (.t 1)⟩,
    ⟨(some 5), none, .move (.c (.sc (.bool false)))⟩])
  (.seq (.ops [⟨(some 6), none, .load none (.t 2)⟩,
    ⟨(some 7), none, .load (some 7) (.t 3)⟩,
    ⟨(some 8), none, .lookup [.i, .i, .i, .i, .i, .i, .i] true (.sc (.bool false)) (.t 6) (.t 7) false⟩,
    ⟨(some 5), none, .move (.t 8)⟩])
  (.ret)),
  [.t 5]⟩
theorem ok70 : EntryOk Tryz.prog 70 af70 := ⟨Tryz.f70, _, Tryz.func70, by decide, rfl, by kernel_rfl, by kernel_rfl, rfl⟩
/-- (*hemiola/check.checker).jumps$1 -/
noncomputable def af76 : AF := ⟨55, .seq (.ops [⟨(some 4), none, .box (.t 1)⟩,
    ⟨(some 5), none, .move (.c (.sc (.bool false)))⟩])
  (.seq (.seq (.ops [⟨(some 7), none, .faddr 15 (.t 4)⟩,
    ⟨(some 8), none, .load none (.t 7)⟩,
    ⟨(some 9), none, .call (.c (.fn (.func 14) [] [])) [(.t 8), (.c (.sc (.int .i64 (0)))), (.c (.sc (.int .i64 (6))))]⟩,
    ⟨(some 10), none, .un .not (.t 9)⟩,
    ⟨(some 11), none, .move (.t 10)⟩,
    ⟨(some 12), (some (11, false)), .faddr 16 (.t 4)⟩,
    ⟨(some 13), (some (11, false)), .load none (.t 12)⟩,
    ⟨(some 14), (some (11, false)), .call (.c (.fn (.func 14) [] [])) [(.t 13), (.c (.sc (.int .i64 (0)))), (.c (.sc (.int .i64 (15))))]⟩,
    ⟨(some 15), (some (11, false)), .un .not (.t 14)⟩,
    ⟨(some 16), none, .pick (.t 11) (.c (.sc (.bool true))) (.t 15)⟩,
    ⟨(some 17), none, .move (.t 16)⟩,
    ⟨(some 18), (some (17, false)), .faddr 15 (.t 4)⟩,
    ⟨(some 19), (some (17, false)), .load none (.t 18)⟩,
    ⟨(some 20), (some (17, false)), .bin .neq (.t 19) (.c (.sc (.int .i64 (0))))⟩,
    ⟨(some 21), (some (17, false)), .move (.t 20)⟩,
    ⟨(some 22), (some (21, false)), .faddr 16 (.t 4)⟩,
    ⟨(some 23), (some (21, false)), .load none (.t 22)⟩,
    ⟨(some 24), (some (21, false)), .bin .neq (.t 23) (.c (.sc (.int .i64 (0))))⟩,
    ⟨(some 25), (some (17, false)), .pick (.t 21) (.c (.sc (.bool true))) (.t 24)⟩,
    ⟨(some 26), (some (17, false)), .move (.t 25)⟩,
    ⟨(some 27), (some (26, true)), .faddr 13 (.t 4)⟩,
    ⟨(some 28), (some (26, true)), .load none (.t 27)⟩,
    ⟨(some 29), (some (26, true)), .bin .neq (.t 28) (.c (.sc (.int .i64 (0))))⟩,
    ⟨(some 30), (some (26, true)), .move (.t 29)⟩,
    ⟨(some 31), (some (30, false)), .faddr 14 (.t 4)⟩,
    ⟨(some 32), (some (30, false)), .load none (.t 31)⟩,
    ⟨(some 33), (some (30, false)), .bin .neq (.t 32) (.c (.sc (.int .i64 (0))))⟩,
    ⟨(some 34), (some (26, true)), .pick (.t 30) (.c (.sc (.bool true))) (.t 33)⟩,
    ⟨(some 35), (some (17, false)), .pick (.t 26) (.t 34) (.c (.sc (.bool false)))⟩,
    ⟨(some 36), none, .pick (.t 17) (.c (.sc (.bool true))) (.t 35)⟩])
  (.cond (.t 36)
   (.seq (.ops [⟨(some 5), none, .move (.c (.sc (.bool true)))⟩])
   (.ret))
   (.skip)))
  (.seq (.ops [⟨(some 37), none, .mkFn (.func 77) [] [(.t 4)]⟩,
    ⟨(some 6), none, .move (.t 37)⟩])
  (.seq (.ops [⟨(some 38), none, .load none (.t 2)⟩,
    ⟨(some 39), none, .nilCheck (.t 38)⟩,
    ⟨(some 40), none, .faddr 0 (.t 39)⟩,
    ⟨(some 41), none, .faddr 3 (.t 40)⟩,
    ⟨(some 42), none, .load none (.t 41)⟩,
    ⟨(some 43), none, .move (.t 0)⟩,
    ⟨(some 44), none, .slSl 22 (.t 42) none (some (.t 43)) none⟩,
    ⟨(some 45), none, .move (.t 6)⟩,
    ⟨(some 46), none, .call (.c (.fn (.func 78) [] [])) [(.t 44), (.t 45)]⟩,
    ⟨(some 47), none, .move (.t 46)⟩,
    ⟨(some 48), (some (47, false)), .load none (.t 2)⟩,
    ⟨(some 49), (some (47, false)), .faddr 15 (.t 4)⟩,
    ⟨(some 50), (some (47, false)), .load none (.t 49)⟩,
    ⟨(some 51), (some (47, false)), .move (.t 0)⟩,
    ⟨(some 52), (some (47, false)), .call (.c (.fn (.func 79) [] [])) [(.t 48), (.t 50), (.t 51)]⟩,
    ⟨(some 53), (some (47, false)), .un .not (.t 52)⟩,
    ⟨(some 54), none, .pick (.t 47) (.c (.sc (.bool true))) (.t 53)⟩,
    ⟨(some 5), none, .move (.t 54)⟩])
  (.ret)))),
  [.t 5]⟩
theorem ok76 : EntryOk Tryz.prog 76 af76 := ⟨Tryz.f76, _, Tryz.func76, by decide, rfl, by kernel_rfl, by kernel_rfl, rfl⟩
/-- (*hemiola/check.checker).margins$1 -/
noncomputable def af81 : AF := ⟨82, .seq (.ops [⟨(some 3), none, .box (.t 0)⟩,
    ⟨(some 4), none, .box (.t 1)⟩,
    ⟨(some 5), none, .move (.c (.sc (.bool false)))⟩])
  (.seq (.draw [⟨false, [2], ⟨(some 11), none, .load none (.t 2)⟩⟩,
    ⟨false, [11], ⟨(some 12), none, .nilCheck (.t 11)⟩⟩,
    ⟨false, [12], ⟨(some 13), none, .faddr 0 (.t 12)⟩⟩,
    ⟨false, [13], ⟨(some 14), none, .load (some 6) (.t 13)⟩⟩,
    ⟨false, [3], ⟨(some 15), none, .load (some 7) (.t 3)⟩⟩,
    ⟨false, [14, 15], ⟨(some 16), none, .call (.c (.fn (.func 66) [] [])) [(.t 14), (.t 15)]⟩⟩,
    ⟨false, [16], ⟨(some 10), none, .move (.t 16)⟩⟩,
    ⟨false, [10], ⟨(some 17), none, .extract 0 (.t 10)⟩⟩,
    ⟨false, [10], ⟨(some 18), none, .extract 1 (.t 10)⟩⟩,
    ⟨false, [], ⟨(some 6), none, .alloc [(.sc (.int .i64 (0))), (.sc (.int .i64 (0))), (.sc (.int .i64 (0))), (.sc (.int .i64 (0))), (.sc (.int .i64 (0))), (.sc (.int .i64 (0))), (.sc (.int .i64 (0)))]⟩⟩,
    ⟨true, [6, 17], ⟨none, none, .store 7 (.t 6) (.t 17)⟩⟩]
    [⟨(some 7), none, .move (.t 18)⟩])
  (.seq (.seq (.ops [⟨(some 19), none, .move (.t 7)⟩,
    ⟨(some 20), none, .un .not (.t 19)⟩,
    ⟨(some 21), none, .move (.t 20)⟩,
    ⟨(some 22), (some (21, false)), .load (some 13) (.t 4)⟩,
    ⟨(some 23), (some (21, false)), .call (.c (.fn (.func 65) [] [])) [(.t 22)]⟩,
    ⟨(some 24), (some (21, false)), .un .not (.t 23)⟩,
    ⟨(some 25), none, .pick (.t 21) (.c (.sc (.bool true))) (.t 24)⟩,
    ⟨(some 26), none, .move (.t 25)⟩,
    ⟨(some 27), (some (26, false)), .faddr 3 (.t 6)⟩,
    ⟨(some 28), (some (26, false)), .load none (.t 27)⟩,
    ⟨(some 29), (some (26, false)), .faddr 3 (.t 3)⟩,
    ⟨(some 30), (some (26, false)), .load none (.t 29)⟩,
    ⟨(some 31), (some (26, false)), .bin .eql (.t 28) (.t 30)⟩,
    ⟨(some 32), none, .pick (.t 26) (.c (.sc (.bool true))) (.t 31)⟩])
  (.cond (.t 32)
   (.seq (.ops [⟨(some 5), none, .move (.c (.sc (.bool false)))⟩])
   (.ret))
   (.skip)))
  (.seq (.draw [⟨false, [2], ⟨(some 33), none, .load none (.t 2)⟩⟩,
    ⟨false, [33], ⟨(some 34), none, .nilCheck (.t 33)⟩⟩,
    ⟨false, [34], ⟨(some 35), none, .faddr 0 (.t 34)⟩⟩,
    ⟨false, [35], ⟨(some 36), none, .faddr 3 (.t 35)⟩⟩,
    ⟨false, [36], ⟨(some 37), none, .load none (.t 36)⟩⟩,
    ⟨false, [3], ⟨(some 38), none, .faddr 3 (.t 3)⟩⟩,
    ⟨false, [38], ⟨(some 39), none, .load none (.t 38)⟩⟩,
    ⟨false, [37, 39], ⟨(some 40), none, .iaddrS 22 (.t 37) (.t 39)⟩⟩,
    ⟨false, [40], ⟨(some 41), none, .load (some 22) (.t 40)⟩⟩,
    ⟨false, [2], ⟨(some 42), none, .load none (.t 2)⟩⟩,
    ⟨false, [42], ⟨(some 43), none, .nilCheck (.t 42)⟩⟩,
    ⟨false, [43], ⟨(some 44), none, .faddr 0 (.t 43)⟩⟩,
    ⟨false, [44], ⟨(some 45), none, .faddr 3 (.t 44)⟩⟩,
    ⟨false, [45], ⟨(some 46), none, .load none (.t 45)⟩⟩,
    ⟨false, [6], ⟨(some 47), none, .faddr 3 (.t 6)⟩⟩,
    ⟨false, [47], ⟨(some 48), none, .load none (.t 47)⟩⟩,
    ⟨false, [46, 48], ⟨(some 49), none, .iaddrS 22 (.t 46) (.t 48)⟩⟩,
    ⟨false, [49], ⟨(some 50), none, .load (some 22) (.t 49)⟩⟩,
    ⟨false, [], ⟨(some 8), none, .alloc [(.sc (.int .i64 (0))), (.sc (.int .i64 (0))), (.sc (.int .i64 (0))), (.sc (.int .i64 (0))), (.sc (.int .i64 (0))), (.sc (.int .i64 (0))), (.sc (.int .i64 (0))), (.sc (.int .i64 (0))), (.sc (.int .i64 (0))), (.sc (.int .i64 (0))), (.sc (.int .i64 (0))), (.sc (.int .i64 (0))), (.sc (.bool false)), (.sc (.int .i64 (0))), (.sc (.int .i64 (0))), (.sc (.int .i64 (0))), (.sc (.int .i64 (0))), (.sc (.int .i64 (0))), (.sc (.int .i64 (0))), (.sc (.string ⟨#[]⟩)), (.sl true .full 0 []), (.sl true .full 0 [])]⟩⟩,
    ⟨false, [], ⟨(some 9), none, .alloc [(.sc (.int .i64 (0))), (.sc (.int .i64 (0))), (.sc (.int .i64 (0))), (.sc (.int .i64 (0))), (.sc (.int .i64 (0))), (.sc (.int .i64 (0))), (.sc (.int .i64 (0))), (.sc (.int .i64 (0))), (.sc (.int .i64 (0))), (.sc (.int .i64 (0))), (.sc (.int .i64 (0))), (.sc (.int .i64 (0))), (.sc (.bool false)), (.sc (.int .i64 (0))), (.sc (.int .i64 (0))), (.sc (.int .i64 (0))), (.sc (.int .i64 (0))), (.sc (.int .i64 (0))), (.sc (.int .i64 (0))), (.sc (.string ⟨#[]⟩)), (.sl true .full 0 []), (.sl true .full 0 [])]⟩⟩,
    ⟨false, [8, 41], ⟨none, none, .store 22 (.t 8) (.t 41)⟩⟩]
    [⟨none, none, .store 22 (.t 9) (.t 50)⟩])
  (.seq (.ops [⟨(some 51), none, .faddr 13 (.t 8)⟩,
    ⟨(some 52), none, .load none (.t 51)⟩,
    ⟨(some 53), none, .bin .neq (.t 52) (.c (.sc (.int .i64 (0))))⟩,
    ⟨(some 54), none, .move (.t 53)⟩,
    ⟨(some 55), (some (54, false)), .faddr 15 (.t 8)⟩,
    ⟨(some 56), (some (54, false)), .load none (.t 55)⟩,
    ⟨(some 57), (some (54, false)), .bin .neq (.t 56) (.c (.sc (.int .i64 (0))))⟩,
    ⟨(some 58), none, .pick (.t 54) (.c (.sc (.bool true))) (.t 57)⟩,
    ⟨(some 59), none, .move (.t 58)⟩,
    ⟨(some 60), (some (59, false)), .faddr 16 (.t 8)⟩,
    ⟨(some 61), (some (59, false)), .load none (.t 60)⟩,
    ⟨(some 62), (some (59, false)), .bin .and (.t 61) (.c (.sc (.int .i64 (12))))⟩,
    ⟨(some 63), (some (59, false)), .bin .neq (.t 62) (.c (.sc (.int .i64 (0))))⟩,
    ⟨(some 64), none, .pick (.t 59) (.c (.sc (.bool true))) (.t 63)⟩,
    ⟨(some 65), none, .move (.t 64)⟩,
    ⟨(some 66), (some (65, false)), .faddr 14 (.t 8)⟩,
    ⟨(some 67), (some (65, false)), .load none (.t 66)⟩,
    ⟨(some 68), (some (65, false)), .faddr 14 (.t 9)⟩,
    ⟨(some 69), (some (65, false)), .load none (.t 68)⟩,
    ⟨(some 70), (some (65, false)), .bin .neq (.t 67) (.t 69)⟩,
    ⟨(some 71), none, .pick (.t 65) (.c (.sc (.bool true))) (.t 70)⟩,
    ⟨(some 72), none, .move (.t 71)⟩,
    ⟨(some 73), (some (72, false)), .faddr 12 (.t 9)⟩,
    ⟨(some 74), (some (72, false)), .load none (.t 73)⟩,
    ⟨(some 75), none, .pick (.t 72) (.c (.sc (.bool true))) (.t 74)⟩,
    ⟨(some 76), none, .move (.t 75)⟩,
    ⟨(some 77), (some (76, false)), .faddr 16 (.t 9)⟩,
    ⟨(some 78), (some (76, false)), .load none (.t 77)⟩,
    ⟨(some 79), (some (76, false)), .bin .and (.t 78) (.c (.sc (.int .i64 (3))))⟩,
    ⟨(some 80), (some (76, false)), .bin .neq (.t 79) (.c (.sc (.int .i64 (0))))⟩,
    ⟨(some 81), none, .pick (.t 76) (.c (.sc (.bool true))) (.t 80)⟩,
    ⟨(some 5), none, .move (.t 81)⟩])
  (.ret))))),
  [.t 5]⟩
theorem ok81 : EntryOk Tryz.prog 81 af81 := ⟨Tryz.f81, _, Tryz.func81, by decide, rfl, by kernel_rfl, by kernel_rfl, rfl⟩
/-- hemiola/clef.of -/
noncomputable def af89 : AF := ⟨15, .seq (.ops [⟨(some 2), none, .alloc [(.sc (.string ⟨#[]⟩)), (.sc (.int .u8 (0))), (.sc (.int .i64 (0))), (.sc (.int .i64 (0))), (.sc (.int .i64 (0))), (.sc (.int .i64 (0))), (.sc (.int .i64 (0)))]⟩,
    ⟨(some 3), none, .move (.c (.sc (.int .i64 (0))))⟩])
  (.seq (.seq (.ops [⟨(some 4), none, .move (.t 0)⟩,
    ⟨(some 5), none, .bin .lss (.t 4) (.c (.sc (.int .i64 (1))))⟩,
    ⟨(some 6), none, .move (.t 5)⟩,
    ⟨(some 7), (some (6, false)), .move (.t 0)⟩,
    ⟨(some 8), (some (6, false)), .bin .gtr (.t 7) (.c (.sc (.int .i64 (9))))⟩,
    ⟨(some 9), none, .pick (.t 6) (.c (.sc (.bool true))) (.t 8)⟩])
  (.cond (.t 9)
   (.seq (.ops [⟨(some 10), none, .build [(.sc (.string ⟨#[]⟩)), (.sc (.int .u8 (0))), (.sc (.int .i64 (0))), (.sc (.int .i64 (0))), (.sc (.int .i64 (0))), (.sc (.int .i64 (0))), (.sc (.int .i64 (0)))] []⟩,
     ⟨none, none, .store 7 (.t 2) (.t 10)⟩,
     ⟨(some 3), none, .move (.c (.sc (.int .i64 (11))))⟩])
   (.ret))
   (.skip)))
  (.seq (.ops [⟨(some 11), none, .call (.c (.fn (.func 139) [] [])) []⟩,
    ⟨(some 12), none, .move (.t 0)⟩,
    ⟨(some 13), none, .bin .sub (.t 12) (.c (.sc (.int .i64 (1))))⟩,
    ⟨(some 14), none, .idxA 7 9 (some 7) (.t 11) (.t 13)⟩,
    ⟨none, none, .store 7 (.t 2) (.t 14)⟩,
    ⟨(some 3), none, .move (.c (.sc (.int .i64 (0))))⟩])
  (.ret))),
  [.c 2 (some 7), .t 3]⟩
theorem ok89 : EntryOk Tryz.prog 89 af89 := ⟨Tryz.f89, _, Tryz.func89, by decide, rfl, by kernel_rfl, by kernel_rfl, rfl⟩
/-- slices.ContainsFunc[[]hemiola/api.Cell,hemiola/api.Cell] -/
noncomputable def af94 : AF := ⟨9, .seq (.ops [⟨(some 4), none, .move (.c (.sc (.bool false)))⟩])
  (.seq (.ops [⟨(some 5), none, .move (.t 0)⟩,
    ⟨(some 6), none, .move (.t 1)⟩,
    ⟨(some 7), none, .call (.c (.fn (.func 142) [] [])) [(.t 5), (.t 6)]⟩,
    ⟨(some 8), none, .bin .geq (.t 7) (.c (.sc (.int .i64 (0))))⟩,
    ⟨(some 4), none, .move (.t 8)⟩])
  (.ret)),
  [.t 4]⟩
theorem ok94 : EntryOk Tryz.prog 94 af94 := ⟨Tryz.f94, _, Tryz.func94, by decide, rfl, by kernel_rfl, by kernel_rfl, rfl⟩
/-- slices.ContainsFunc[[]hemiola/api.Event,hemiola/api.Event] -/
noncomputable def af98 : AF := ⟨9, .seq (.ops [⟨(some 4), none, .move (.c (.sc (.bool false)))⟩])
  (.seq (.ops [⟨(some 5), none, .move (.t 0)⟩,
    ⟨(some 6), none, .move (.t 1)⟩,
    ⟨(some 7), none, .call (.c (.fn (.func 144) [] [])) [(.t 5), (.t 6)]⟩,
    ⟨(some 8), none, .bin .geq (.t 7) (.c (.sc (.int .i64 (0))))⟩,
    ⟨(some 4), none, .move (.t 8)⟩])
  (.ret)),
  [.t 4]⟩
theorem ok98 : EntryOk Tryz.prog 98 af98 := ⟨Tryz.f98, _, Tryz.func98, by decide, rfl, by kernel_rfl, by kernel_rfl, rfl⟩
/-- hemiola/event.exists -/
noncomputable def af102 : AF := ⟨9, .seq (.ops [⟨(some 2), none, .move (.c (.sc (.bool false)))⟩])
  (.seq (.ops [⟨(some 3), none, .move (.t 0)⟩,
    ⟨(some 4), none, .bin .geq (.t 3) (.c (.sc (.int .i64 (1))))⟩,
    ⟨(some 5), none, .move (.t 4)⟩,
    ⟨(some 6), (some (5, true)), .move (.t 0)⟩,
    ⟨(some 7), (some (5, true)), .bin .leq (.t 6) (.c (.sc (.int .i64 (4))))⟩,
    ⟨(some 8), none, .pick (.t 5) (.t 7) (.c (.sc (.bool false)))⟩,
    ⟨(some 2), none, .move (.t 8)⟩])
  (.ret)),
  [.t 2]⟩
theorem ok102 : EntryOk Tryz.prog 102 af102 := ⟨Tryz.f102, _, Tryz.func102, by decide, rfl, by kernel_rfl, by kernel_rfl, rfl⟩
/-- slices.IndexFunc[[]hemiola/api.Grace,hemiola/api.Grace] -/
noncomputable def af112 : AF := ⟨19, .seq (.ops [⟨(some 4), none, .move (.c (.sc (.int .i64 (0))))⟩])
  (.seq (.seq (.ops [⟨(some 6), none, .move (.t 0)⟩,
    ⟨(some 7), none, .len (.t 6)⟩,
    ⟨(some 8), none, .move (.c (.sc (.int .i64 (0))))⟩])
  (.block 0 (.loop (.seq (.ops [⟨(some 9), none, .bin .lss (.t 8) (.t 7)⟩])
    (.seq (.cond (.t 9)
     (.skip)
     (.exit 0))
    (.seq (.block 1 (.seq (.ops [⟨(some 10), none, .move (.t 8)⟩,
       ⟨(some 5), none, .move (.t 10)⟩])
     (.seq (.ops [⟨(some 11), none, .move (.t 1)⟩,
       ⟨(some 12), none, .move (.t 0)⟩,
       ⟨(some 13), none, .move (.t 5)⟩,
       ⟨(some 14), none, .iaddrS 5 (.t 12) (.t 13)⟩,
       ⟨(some 15), none, .load (some 5) (.t 14)⟩,
       ⟨(some 16), none, .call (.t 11) [(.t 15)]⟩])
     (.cond (.t 16)
      (.seq (.ops [⟨(some 17), none, .move (.t 5)⟩,
        ⟨(some 4), none, .move (.t 17)⟩])
      (.ret))
      (.skip)))))
    (.ops [⟨(some 18), none, .bin .add (.t 8) (.c (.sc (.int .i64 (1))))⟩,
      ⟨(some 8), none, .move (.t 18)⟩])))))))
  (.seq (.ops [⟨(some 4), none, .move (.c (.sc (.int .i64 (-1))))⟩])
  (.ret))),
  [.t 4]⟩
theorem ok112 : EntryOk Tryz.prog 112 af112 := ⟨Tryz.f112, _, Tryz.func112, by decide, rfl, by kernel_rfl, by kernel_rfl, rfl⟩
/-- slices.IndexFunc[[]hemiola/api.Measure,hemiola/api.Measure] -/
noncomputable def af129 : AF := ⟨19, .seq (.ops [⟨(some 4), none, .move (.c (.sc (.int .i64 (0))))⟩])
  (.seq (.seq (.ops [⟨(some 6), none, .move (.t 0)⟩,
    ⟨(some 7), none, .len (.t 6)⟩,
    ⟨(some 8), none, .move (.c (.sc (.int .i64 (0))))⟩])
  (.block 0 (.loop (.seq (.ops [⟨(some 9), none, .bin .lss (.t 8) (.t 7)⟩])
    (.seq (.cond (.t 9)
     (.skip)
     (.exit 0))
    (.seq (.block 1 (.seq (.ops [⟨(some 10), none, .move (.t 8)⟩,
       ⟨(some 5), none, .move (.t 10)⟩])
     (.seq (.ops [⟨(some 11), none, .move (.t 1)⟩,
       ⟨(some 12), none, .move (.t 0)⟩,
       ⟨(some 13), none, .move (.t 5)⟩,
       ⟨(some 14), none, .iaddrS 22 (.t 12) (.t 13)⟩,
       ⟨(some 15), none, .load (some 22) (.t 14)⟩,
       ⟨(some 16), none, .call (.t 11) [(.t 15)]⟩])
     (.cond (.t 16)
      (.seq (.ops [⟨(some 17), none, .move (.t 5)⟩,
        ⟨(some 4), none, .move (.t 17)⟩])
      (.ret))
      (.skip)))))
    (.ops [⟨(some 18), none, .bin .add (.t 8) (.c (.sc (.int .i64 (1))))⟩,
      ⟨(some 8), none, .move (.t 18)⟩])))))))
  (.seq (.ops [⟨(some 4), none, .move (.c (.sc (.int .i64 (-1))))⟩])
  (.ret))),
  [.t 4]⟩
theorem ok129 : EntryOk Tryz.prog 129 af129 := ⟨Tryz.f129, _, Tryz.func129, by decide, rfl, by kernel_rfl, by kernel_rfl, rfl⟩
/-- hemiola/metre.Check -/
noncomputable def af140 : AF := ⟨34, .seq (.ops [⟨(some 1), none, .box (.t 0)⟩,
    ⟨(some 2), none, .move (.c (.sc (.int .i64 (0))))⟩])
  (.seq (.block 0 (.seq (.ops [⟨(some 4), none, .faddr 0 (.t 1)⟩,
     ⟨(some 5), none, .load none (.t 4)⟩,
     ⟨(some 6), none, .bin .lss (.t 5) (.c (.sc (.int .i64 (1))))⟩,
     ⟨(some 7), none, .move (.t 6)⟩,
     ⟨(some 8), (some (7, false)), .faddr 0 (.t 1)⟩,
     ⟨(some 9), (some (7, false)), .load none (.t 8)⟩,
     ⟨(some 10), (some (7, false)), .bin .gtr (.t 9) (.c (.sc (.int .i64 (64))))⟩,
     ⟨(some 11), none, .pick (.t 7) (.c (.sc (.bool true))) (.t 10)⟩,
     ⟨(some 3), none, .move (.t 11)⟩])
   (.cond (.t 3)
    (.seq (.ops [⟨(some 2), none, .move (.c (.sc (.int .i64 (2))))⟩])
    (.ret))
    (.seq (.ops [⟨(some 13), none, .faddr 1 (.t 1)⟩,
      ⟨(some 14), none, .load none (.t 13)⟩,
      ⟨(some 15), none, .bin .lss (.t 14) (.c (.sc (.int .i64 (1))))⟩,
      ⟨(some 16), none, .move (.t 15)⟩,
      ⟨(some 17), (some (16, false)), .faddr 1 (.t 1)⟩,
      ⟨(some 18), (some (16, false)), .load none (.t 17)⟩,
      ⟨(some 19), (some (16, false)), .bin .gtr (.t 18) (.c (.sc (.int .i64 (64))))⟩,
      ⟨(some 20), none, .pick (.t 16) (.c (.sc (.bool true))) (.t 19)⟩,
      ⟨(some 21), none, .move (.t 20)⟩,
      ⟨(some 22), (some (21, false)), .faddr 1 (.t 1)⟩,
      ⟨(some 23), (some (21, false)), .load none (.t 22)⟩,
      ⟨(some 24), (some (21, false)), .faddr 1 (.t 1)⟩,
      ⟨(some 25), (some (21, false)), .load none (.t 24)⟩,
      ⟨(some 26), (some (21, false)), .bin .sub (.t 25) (.c (.sc (.int .i64 (1))))⟩,
      ⟨(some 27), (some (21, false)), .bin .and (.t 23) (.t 26)⟩,
      ⟨(some 28), (some (21, false)), .bin .neq (.t 27) (.c (.sc (.int .i64 (0))))⟩,
      ⟨(some 29), none, .pick (.t 21) (.c (.sc (.bool true))) (.t 28)⟩,
      ⟨(some 12), none, .move (.t 29)⟩])
    (.cond (.t 12)
     (.seq (.ops [⟨(some 2), none, .move (.c (.sc (.int .i64 (17))))⟩])
     (.ret))
     (.seq (.ops [⟨(some 31), none, .load (some 8) (.t 1)⟩,
       ⟨(some 32), none, .call (.c (.fn (.func 169) [] [])) [(.t 31)]⟩,
       ⟨(some 33), none, .un .not (.t 32)⟩,
       ⟨(some 30), none, .move (.t 33)⟩])
     (.cond (.t 30)
      (.seq (.ops [⟨(some 2), none, .move (.c (.sc (.int .i64 (19))))⟩])
      (.ret))
      (.skip))))))))
  (.seq (.ops [⟨(some 2), none, .move (.c (.sc (.int .i64 (0))))⟩])
  (.ret))),
  [.t 2]⟩
theorem ok140 : EntryOk Tryz.prog 140 af140 := ⟨Tryz.f140, _, Tryz.func140, by decide, rfl, by kernel_rfl, by kernel_rfl, rfl⟩
/-- slices.IndexFunc[[]hemiola/api.Event,hemiola/api.Event] -/
noncomputable def af144 : AF := ⟨19, .seq (.ops [⟨(some 4), none, .move (.c (.sc (.int .i64 (0))))⟩])
  (.seq (.seq (.ops [⟨(some 6), none, .move (.t 0)⟩,
    ⟨(some 7), none, .len (.t 6)⟩,
    ⟨(some 8), none, .move (.c (.sc (.int .i64 (0))))⟩])
  (.block 0 (.loop (.seq (.ops [⟨(some 9), none, .bin .lss (.t 8) (.t 7)⟩])
    (.seq (.cond (.t 9)
     (.skip)
     (.exit 0))
    (.seq (.block 1 (.seq (.ops [⟨(some 10), none, .move (.t 8)⟩,
       ⟨(some 5), none, .move (.t 10)⟩])
     (.seq (.ops [⟨(some 11), none, .move (.t 1)⟩,
       ⟨(some 12), none, .move (.t 0)⟩,
       ⟨(some 13), none, .move (.t 5)⟩,
       ⟨(some 14), none, .iaddrS 13 (.t 12) (.t 13)⟩,
       ⟨(some 15), none, .load (some 13) (.t 14)⟩,
       ⟨(some 16), none, .call (.t 11) [(.t 15)]⟩])
     (.cond (.t 16)
      (.seq (.ops [⟨(some 17), none, .move (.t 5)⟩,
        ⟨(some 4), none, .move (.t 17)⟩])
      (.ret))
      (.skip)))))
    (.ops [⟨(some 18), none, .bin .add (.t 8) (.c (.sc (.int .i64 (1))))⟩,
      ⟨(some 8), none, .move (.t 18)⟩])))))))
  (.seq (.ops [⟨(some 4), none, .move (.c (.sc (.int .i64 (-1))))⟩])
  (.ret))),
  [.t 4]⟩
theorem ok144 : EntryOk Tryz.prog 144 af144 := ⟨Tryz.f144, _, Tryz.func144, by decide, rfl, by kernel_rfl, by kernel_rfl, rfl⟩
/-- slices.Equal[[]hemiola/api.Syllable,hemiola/api.Syllable] -/
noncomputable def af148 : AF := ⟨26, .seq (.ops [⟨(some 4), none, .move (.c (.sc (.bool false)))⟩])
  (.seq (.seq (.ops [⟨(some 6), none, .move (.t 0)⟩,
    ⟨(some 7), none, .len (.t 6)⟩,
    ⟨(some 8), none, .move (.t 1)⟩,
    ⟨(some 9), none, .len (.t 8)⟩,
    ⟨(some 10), none, .bin .neq (.t 7) (.t 9)⟩])
  (.cond (.t 10)
   (.seq (.ops [⟨(some 4), none, .move (.c (.sc (.bool false)))⟩])
   (.ret))
   (.skip)))
  (.seq (.seq (.ops [⟨(some 11), none, .move (.t 0)⟩,
    ⟨(some 12), none, .len (.t 11)⟩,
    ⟨(some 13), none, .move (.c (.sc (.int .i64 (0))))⟩])
  (.block 0 (.loop (.seq (.ops [⟨(some 14), none, .bin .lss (.t 13) (.t 12)⟩])
    (.seq (.cond (.t 14)
     (.skip)
     (.exit 0))
    (.seq (.block 1 (.seq (.ops [⟨(some 15), none, .move (.t 13)⟩,
       ⟨(some 5), none, .move (.t 15)⟩])
     (.seq (.draw [⟨false, [0], ⟨(some 16), none, .move (.t 0)⟩⟩,
       ⟨false, [5], ⟨(some 17), none, .move (.t 5)⟩⟩,
       ⟨false, [16, 17], ⟨(some 18), none, .iaddrS 2 (.t 16) (.t 17)⟩⟩,
       ⟨false, [18], ⟨(some 19), none, .load (some 2) (.t 18)⟩⟩,
       ⟨false, [1], ⟨(some 20), none, .move (.t 1)⟩⟩,
       ⟨false, [5], ⟨(some 21), none, .move (.t 5)⟩⟩,
       ⟨false, [20, 21], ⟨(some 22), none, .iaddrS 2 (.t 20) (.t 21)⟩⟩,
       ⟨false, [22], ⟨(some 23), none, .load (some 2) (.t 22)⟩⟩]
       [⟨(some 24), none, .eqC [.s, .i] true (.t 19) (.t 23)⟩])
     (.cond (.t 24)
      (.seq (.ops [⟨(some 4), none, .move (.c (.sc (.bool false)))⟩])
      (.ret))
      (.skip)))))
    (.ops [⟨(some 25), none, .bin .add (.t 13) (.c (.sc (.int .i64 (1))))⟩,
      ⟨(some 13), none, .move (.t 25)⟩])))))))
  (.seq (.ops [⟨(some 4), none, .move (.c (.sc (.bool true)))⟩])
  (.ret)))),
  [.t 4]⟩
theorem ok148 : EntryOk Tryz.prog 148 af148 := ⟨Tryz.f148, _, Tryz.func148, by decide, rfl, by kernel_rfl, by kernel_rfl, rfl⟩
/-- hemiola/voice.lengths -/
noncomputable def af171 : AF := ⟨45, .seq (.ops [⟨(some 2), none, .box (.t 0)⟩,
    ⟨(some 4), none, .move (.c (.sl true .full 0 []))⟩,
    ⟨(some 5), none, .move (.c (.sc (.int .i64 (0))))⟩])
  (.seq (.block 0 (.seq (.ops [⟨(some 8), none, .move (.t 1)⟩,
     ⟨(some 9), none, .bin .lss (.t 8) (.c (.sc (.int .i64 (1))))⟩,
     ⟨(some 10), none, .move (.t 9)⟩,
     ⟨(some 11), (some (10, false)), .move (.t 1)⟩,
     ⟨(some 12), (some (10, false)), .bin .gtr (.t 11) (.c (.sc (.int .i64 (15482880))))⟩,
     ⟨(some 13), none, .pick (.t 10) (.c (.sc (.bool true))) (.t 12)⟩,
     ⟨(some 7), none, .move (.t 13)⟩])
   (.cond (.t 7)
    (.seq (.ops [⟨(some 4), none, .move (.c (.sl true .full 0 []))⟩,
      ⟨(some 5), none, .move (.c (.sc (.int .i64 (2))))⟩])
    (.ret))
    (.seq (.ops [⟨(some 15), none, .faddr 0 (.t 2)⟩,
      ⟨(some 16), none, .load none (.t 15)⟩,
      ⟨(some 17), none, .len (.t 16)⟩,
      ⟨(some 18), none, .bin .gtr (.t 17) (.c (.sc (.int .i64 (128))))⟩,
      ⟨(some 14), none, .move (.t 18)⟩])
    (.cond (.t 14)
     (.seq (.ops [⟨(some 4), none, .move (.c (.sl true .full 0 []))⟩,
       ⟨(some 5), none, .move (.c (.sc (.int .i64 (9))))⟩])
     (.ret))
     (.skip))))))
  (.seq (.seq (.ops [⟨(some 19), none, .load (some 2) (.t 2)⟩,
    ⟨(some 20), none, .call (.c (.fn (.func 178) [] [])) [(.t 19)]⟩,
    ⟨(some 21), none, .move (.t 20)⟩,
    ⟨(some 22), (some (21, true)), .faddr 0 (.t 2)⟩,
    ⟨(some 23), (some (21, true)), .load none (.t 22)⟩,
    ⟨(some 24), (some (21, true)), .len (.t 23)⟩,
    ⟨(some 25), (some (21, true)), .bin .eql (.t 24) (.c (.sc (.int .i64 (1))))⟩,
    ⟨(some 26), none, .pick (.t 21) (.t 25) (.c (.sc (.bool false)))⟩])
  (.cond (.t 26)
   (.seq (.seq (.ops [⟨(some 27), none, .faddr 0 (.t 2)⟩,
     ⟨(some 28), none, .load none (.t 27)⟩,
     ⟨(some 29), none, .iaddrS 13 (.t 28) (.c (.sc (.int .i64 (0))))⟩,
     ⟨(some 30), none, .load (some 13) (.t 29)⟩,
     ⟨(some 31), none, .call (.c (.fn (.func 55) [] [])) [(.t 30)]⟩,
     ⟨(some 6), none, .move (.t 31)⟩])
   (.seq (.ops [⟨(some 32), none, .move (.t 6)⟩,
     ⟨(some 33), none, .bin .neq (.t 32) (.c (.sc (.int .i64 (0))))⟩])
   (.cond (.t 33)
    (.seq (.ops [⟨(some 34), none, .move (.t 6)⟩,
      ⟨(some 4), none, .move (.c (.sl true .full 0 []))⟩,
      ⟨(some 5), none, .move (.t 34)⟩])
    (.ret))
    (.skip))))
   (.seq (.seq (.ops [⟨(some 35), none, .faddr 1 (.t 2)⟩,
     ⟨(some 36), none, .load none (.t 35)⟩,
     ⟨(some 37), none, .len (.t 36)⟩,
     ⟨(some 38), none, .bin .gtr (.t 37) (.c (.sc (.int .i64 (0))))⟩])
   (.cond (.t 38)
    (.seq (.ops [⟨(some 4), none, .move (.c (.sl true .full 0 []))⟩,
      ⟨(some 5), none, .move (.c (.sc (.int .i64 (21))))⟩])
    (.ret))
    (.skip)))
   (.seq (.ops [⟨(some 39), none, .move (.t 1)⟩,
     ⟨(some 40), none, .buildSl 1 [(.t 39)]⟩,
     ⟨(some 4), none, .move (.t 40)⟩,
     ⟨(some 5), none, .move (.c (.sc (.int .i64 (0))))⟩])
   (.ret))))
   (.skip)))
  (.seq (.ops [⟨(some 41), none, .load (some 2) (.t 2)⟩,
    ⟨(some 42), none, .call (.c (.fn (.func 179) [] [])) [(.t 41)]⟩,
    ⟨(some 43), none, .extract 0 (.t 42)⟩,
    ⟨(some 44), none, .extract 1 (.t 42)⟩,
    ⟨(some 4), none, .move (.t 43)⟩,
    ⟨(some 5), none, .move (.t 44)⟩])
  (.ret)))),
  [.t 4, .t 5]⟩
theorem ok171 : EntryOk Tryz.prog 171 af171 := ⟨Tryz.f171, _, Tryz.func171, by decide, rfl, by kernel_rfl, by kernel_rfl, rfl⟩
end Go.Proofs.YtfhijafkpenogaaGreatDoor
