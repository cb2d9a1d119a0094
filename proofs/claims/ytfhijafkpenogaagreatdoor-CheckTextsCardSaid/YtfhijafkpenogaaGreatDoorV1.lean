/- Resolved code, printed by a program. -/
import Derived.Test.YtfhijafkpenogaaGreatDoorPE19
import Derived.Test.YtfhijafkpenogaaGreatDoorProg
namespace Go.Proofs.YtfhijafkpenogaaGreatDoor
open Go.PE

/-- hemiola/check.Name -/
noncomputable def af6 : AF := ⟨12, .seq (.ops [⟨(some 2), none, .move (.c (.sc (.string ⟨#[]⟩)))⟩,
    ⟨(some 3), none, .move (.c (.sc (.int .i64 (0))))⟩])
  (.seq (.seq (.ops [⟨(some 4), none, .move (.t 0)⟩,
    ⟨(some 5), none, .call (.c (.fn (.func 14) [] [])) [(.t 4), (.c (.sc (.int .i64 (1)))), (.c (.sc (.int .i64 (17))))]⟩,
    ⟨(some 6), none, .un .not (.t 5)⟩])
  (.cond (.t 6)
   (.seq (.ops [⟨(some 2), none, .move (.c (.sc (.string ⟨#[]⟩)))⟩,
     ⟨(some 3), none, .move (.c (.sc (.int .i64 (11))))⟩])
   (.ret))
   (.skip)))
  (.seq (.ops [⟨(some 7), none, .call (.c (.fn (.func 13) [] [])) []⟩,
    ⟨(some 8), none, .move (.t 0)⟩,
    ⟨(some 9), none, .bin .sub (.t 8) (.c (.sc (.int .i64 (1))))⟩,
    ⟨(some 10), none, .iaddrS 1 (.t 7) (.t 9)⟩,
    ⟨(some 11), none, .load none (.t 10)⟩,
    ⟨(some 2), none, .move (.t 11)⟩,
    ⟨(some 3), none, .move (.c (.sc (.int .i64 (0))))⟩])
  (.ret))),
  [.t 2, .t 3]⟩
theorem ok6 : EntryOk Tryz.prog 6 af6 := ⟨Tryz.f6, _, Tryz.func6, by decide, rfl, by kernel_rfl, by kernel_rfl, rfl⟩
/-- hemiola/check.Check -/
noncomputable def af11 : AF := ⟨11, .seq (.ops [⟨(some 1), none, .box (.t 0)⟩,
    ⟨(some 2), none, .move (.c (.sl true .full 0 []))⟩])
  (.seq (.ops [⟨(some 4), none, .load (some 6) (.t 1)⟩,
    ⟨(some 5), none, .call (.c (.fn (.func 16) [] [])) [(.t 4)]⟩,
    ⟨(some 3), none, .move (.t 5)⟩])
  (.seq (.ops [⟨(some 6), none, .move (.t 3)⟩,
    ⟨(some 7), none, .move (.t 3)⟩,
    ⟨(some 8), none, .len (.t 7)⟩,
    ⟨(some 9), none, .mm false [(.t 8), (.c (.sc (.int .i64 (200))))]⟩,
    ⟨(some 10), none, .slSl 3 (.t 6) none (some (.t 9)) none⟩,
    ⟨(some 2), none, .move (.t 10)⟩])
  (.ret))),
  [.t 2]⟩
theorem ok11 : EntryOk Tryz.prog 11 af11 := ⟨Tryz.f11, _, Tryz.func11, by decide, rfl, by kernel_rfl, by kernel_rfl, rfl⟩
/-- hemiola/check.all -/
noncomputable def af16 : AF := ⟨94, .seq (.ops [⟨(some 1), none, .box (.t 0)⟩,
    ⟨(some 2), none, .move (.c (.sl true .full 0 []))⟩])
  (.seq (.ops [⟨(some 7), none, .load (some 6) (.t 1)⟩,
    ⟨(some 8), none, .build [(.sc (.string ⟨#[]⟩)), (.sc (.bool false)), (.sl true .full 0 []), (.sl true .full 0 []), (.sl true .full 0 []), (.sl true .full 0 []), (.sc (.int .i64 (0))), (.sl true .full 0 [])] [((0, 6), (.t 7))]⟩,
    ⟨(some 9), none, .box (.t 8)⟩,
    ⟨(some 3), none, .move (.t 9)⟩])
  (.seq (.ops [⟨(some 10), none, .move (.t 3)⟩,
    ⟨(some 11), none, .mkFn (.func 18) [(.t 10)] []⟩,
    ⟨(some 12), none, .move (.t 3)⟩,
    ⟨(some 13), none, .mkFn (.func 19) [(.t 12)] []⟩,
    ⟨(some 14), none, .move (.t 3)⟩,
    ⟨(some 15), none, .mkFn (.func 20) [(.t 14)] []⟩,
    ⟨(some 16), none, .move (.t 3)⟩,
    ⟨(some 17), none, .mkFn (.func 21) [(.t 16)] []⟩,
    ⟨(some 18), none, .move (.t 3)⟩,
    ⟨(some 19), none, .mkFn (.func 22) [(.t 18)] []⟩,
    ⟨(some 20), none, .move (.t 3)⟩,
    ⟨(some 21), none, .mkFn (.func 23) [(.t 20)] []⟩,
    ⟨(some 22), none, .move (.t 3)⟩,
    ⟨(some 23), none, .mkFn (.func 24) [(.t 22)] []⟩,
    ⟨(some 24), none, .move (.t 3)⟩,
    ⟨(some 25), none, .mkFn (.func 25) [(.t 24)] []⟩,
    ⟨(some 26), none, .move (.t 3)⟩,
    ⟨(some 27), none, .mkFn (.func 26) [(.t 26)] []⟩,
    ⟨(some 28), none, .move (.t 3)⟩,
    ⟨(some 29), none, .mkFn (.func 27) [(.t 28)] []⟩,
    ⟨(some 30), none, .move (.t 3)⟩,
    ⟨(some 31), none, .mkFn (.func 28) [(.t 30)] []⟩,
    ⟨(some 32), none, .move (.t 3)⟩,
    ⟨(some 33), none, .mkFn (.func 29) [(.t 32)] []⟩,
    ⟨(some 34), none, .move (.t 3)⟩,
    ⟨(some 35), none, .mkFn (.func 30) [(.t 34)] []⟩,
    ⟨(some 36), none, .move (.t 3)⟩,
    ⟨(some 37), none, .mkFn (.func 31) [(.t 36)] []⟩,
    ⟨(some 38), none, .move (.t 3)⟩,
    ⟨(some 39), none, .mkFn (.func 32) [(.t 38)] []⟩,
    ⟨(some 40), none, .move (.t 3)⟩,
    ⟨(some 41), none, .mkFn (.func 33) [(.t 40)] []⟩,
    ⟨(some 42), none, .move (.t 3)⟩,
    ⟨(some 43), none, .mkFn (.func 34) [(.t 42)] []⟩,
    ⟨(some 44), none, .buildSl 1 [(.t 11), (.t 13), (.t 15), (.t 17), (.t 19), (.t 21), (.t 23), (.t 25), (.t 27), (.t 29), (.t 31), (.t 33), (.t 35), (.t 37), (.t 39), (.t 41), (.t 43)]⟩,
    ⟨(some 4), none, .move (.t 44)⟩])
  (.seq (.seq (.ops [⟨(some 45), none, .move (.t 4)⟩,
    ⟨(some 46), none, .len (.t 45)⟩,
    ⟨(some 47), none, .move (.c (.sc (.int .i64 (0))))⟩])
  (.block 0 (.loop (.seq (.ops [⟨(some 48), none, .bin .lss (.t 47) (.t 46)⟩])
    (.seq (.cond (.t 48)
     (.skip)
     (.exit 0))
    (.seq (.block 1 (.seq (.ops [⟨(some 49), none, .move (.t 47)⟩,
       ⟨(some 50), none, .iaddrS 1 (.t 45) (.t 47)⟩,
       ⟨(some 51), none, .load none (.t 50)⟩,
       ⟨(some 5), none, .move (.t 49)⟩,
       ⟨(some 6), none, .move (.t 51)⟩])
     (.seq (.ops [⟨(some 52), none, .move (.t 3)⟩,
       ⟨(some 53), none, .move (.t 5)⟩,
       ⟨(some 54), none, .bin .add (.t 53) (.c (.sc (.int .i64 (1))))⟩,
       ⟨(some 55), none, .nilCheck (.t 52)⟩,
       ⟨(some 56), none, .faddr 6 (.t 55)⟩,
       ⟨none, none, .store 1 (.t 56) (.t 54)⟩])
     (.seq (.seq (.ops [⟨(some 57), none, .move (.t 3)⟩,
       ⟨(some 58), none, .nilCheck (.t 57)⟩,
       ⟨(some 59), none, .faddr 7 (.t 58)⟩,
       ⟨(some 60), none, .load none (.t 59)⟩,
       ⟨(some 61), none, .len (.t 60)⟩,
       ⟨(some 62), none, .bin .gtr (.t 61) (.c (.sc (.int .i64 (0))))⟩,
       ⟨(some 63), none, .move (.t 62)⟩,
       ⟨(some 64), (some (63, true)), .move (.t 3)⟩,
       ⟨(some 65), (some (63, true)), .nilCheck (.t 64)⟩,
       ⟨(some 66), (some (63, true)), .faddr 6 (.t 65)⟩,
       ⟨(some 67), (some (63, true)), .load none (.t 66)⟩,
       ⟨(some 68), (some (63, true)), .bin .eql (.t 67) (.c (.sc (.int .i64 (2))))⟩,
       ⟨(some 69), (some (63, true)), .move (.t 68)⟩,
       ⟨(some 70), (some (69, false)), .move (.t 3)⟩,
       ⟨(some 71), (some (69, false)), .nilCheck (.t 70)⟩,
       ⟨(some 72), (some (69, false)), .faddr 6 (.t 71)⟩,
       ⟨(some 73), (some (69, false)), .load none (.t 72)⟩,
       ⟨(some 74), (some (69, false)), .bin .geq (.t 73) (.c (.sc (.int .i64 (10))))⟩,
       ⟨(some 75), (some (69, false)), .move (.t 74)⟩,
       ⟨(some 76), (some (75, true)), .move (.t 3)⟩,
       ⟨(some 77), (some (75, true)), .nilCheck (.t 76)⟩,
       ⟨(some 78), (some (75, true)), .faddr 7 (.t 77)⟩,
       ⟨(some 79), (some (75, true)), .load none (.t 78)⟩,
       ⟨(some 80), (some (75, true)), .iaddrS 3 (.t 79) (.c (.sc (.int .i64 (0))))⟩,
       ⟨(some 81), (some (75, true)), .faddr 0 (.t 80)⟩,
       ⟨(some 82), (some (75, true)), .load none (.t 81)⟩,
       ⟨(some 83), (some (75, true)), .bin .lss (.t 82) (.c (.sc (.int .i64 (10))))⟩,
       ⟨(some 84), (some (69, false)), .pick (.t 75) (.t 83) (.c (.sc (.bool false)))⟩,
       ⟨(some 85), (some (63, true)), .pick (.t 69) (.c (.sc (.bool true))) (.t 84)⟩,
       ⟨(some 86), none, .pick (.t 63) (.t 85) (.c (.sc (.bool false)))⟩])
     (.cond (.t 86)
      (.exit 0)
      (.skip)))
     (.ops [⟨(some 87), none, .move (.t 6)⟩,
       ⟨(some 88), none, .call (.t 87) []⟩])))))
    (.ops [⟨(some 89), none, .bin .add (.t 47) (.c (.sc (.int .i64 (1))))⟩,
      ⟨(some 47), none, .move (.t 89)⟩])))))))
  (.seq (.ops [⟨(some 90), none, .move (.t 3)⟩,
    ⟨(some 91), none, .nilCheck (.t 90)⟩,
    ⟨(some 92), none, .faddr 7 (.t 91)⟩,
    ⟨(some 93), none, .load none (.t 92)⟩,
    ⟨(some 2), none, .move (.t 93)⟩])
  (.ret))))),
  [.t 2]⟩
theorem ok16 : EntryOk Tryz.prog 16 af16 := ⟨Tryz.f16, _, Tryz.func16, by decide, rfl, by kernel_rfl, by kernel_rfl, rfl⟩
/-- (*hemiola/check.checker).structure -/
noncomputable def af20 : AF := ⟨11, .seq (.ops [⟨(some 3), none, .move (.t 0)⟩,
    ⟨(some 4), none, .nilCheck (.t 3)⟩,
    ⟨(some 5), none, .faddr 0 (.t 4)⟩,
    ⟨(some 6), none, .load (some 6) (.t 5)⟩,
    ⟨(some 7), none, .call (.c (.fn (.func 42) [] [])) [(.t 6)]⟩,
    ⟨(some 2), none, .alloc [(.sc (.int .i64 (0)))]⟩,
    ⟨none, none, .store 1 (.t 2) (.t 7)⟩])
  (.ops [⟨(some 8), none, .move (.t 0)⟩,
    ⟨(some 9), none, .mkFn (.func 44) [] [(.t 2)]⟩,
    ⟨(some 10), none, .call (.c (.fn (.func 43) [] [])) [(.t 8), (.t 9)]⟩]),
  []⟩
theorem ok20 : EntryOk Tryz.prog 20 af20 := ⟨Tryz.f20, _, Tryz.func20, by decide, rfl, by kernel_rfl, by kernel_rfl, rfl⟩
/-- (*hemiola/check.checker).tuplets -/
noncomputable def af24 : AF := ⟨4, .ops [⟨(some 2), none, .move (.t 0)⟩,
    ⟨(some 3), none, .call (.c (.fn (.func 50) [] [])) [(.t 2), (.c (.fn (.func 52) [] []))]⟩],
  []⟩
theorem ok24 : EntryOk Tryz.prog 24 af24 := ⟨Tryz.f24, _, Tryz.func24, by decide, rfl, by kernel_rfl, by kernel_rfl, rfl⟩
/-- (*hemiola/check.checker).lyrics -/
noncomputable def af28 : AF := ⟨35, .seq (.ops [⟨(some 7), none, .mkMap⟩,
    ⟨(some 2), none, .alloc [(.sc (.map none))]⟩,
    ⟨none, none, .store 1 (.t 2) (.t 7)⟩])
  (.seq (.ops [⟨(some 8), none, .move (.t 0)⟩,
    ⟨(some 9), none, .nilCheck (.t 8)⟩,
    ⟨(some 10), none, .faddr 0 (.t 9)⟩,
    ⟨(some 11), none, .load (some 6) (.t 10)⟩,
    ⟨(some 12), none, .call (.c (.fn (.func 42) [] [])) [(.t 11)]⟩,
    ⟨(some 3), none, .move (.t 12)⟩])
  (.seq (.seq (.ops [⟨(some 13), none, .move (.t 3)⟩,
    ⟨(some 14), none, .move (.c (.sc (.int .i64 (0))))⟩])
  (.block 0 (.loop (.seq (.ops [⟨(some 15), none, .bin .lss (.t 14) (.t 13)⟩])
    (.seq (.cond (.t 15)
     (.skip)
     (.exit 0))
    (.seq (.block 1 (.seq (.ops [⟨(some 16), none, .move (.t 14)⟩,
       ⟨(some 4), none, .move (.t 16)⟩])
     (.seq (.ops [⟨(some 17), none, .move (.c (.sc (.int .i64 (0))))⟩])
     (.block 2 (.loop (.seq (.ops [⟨(some 18), none, .bin .lss (.t 17) (.c (.sc (.int .i64 (2))))⟩])
       (.seq (.cond (.t 18)
        (.skip)
        (.exit 2))
       (.seq (.block 3 (.seq (.ops [⟨(some 19), none, .move (.t 17)⟩,
          ⟨(some 5), none, .move (.t 19)⟩])
        (.seq (.ops [⟨(some 20), none, .move (.c (.sc (.int .i64 (0))))⟩])
        (.block 4 (.loop (.seq (.ops [⟨(some 21), none, .bin .lss (.t 20) (.c (.sc (.int .i64 (4))))⟩])
          (.seq (.cond (.t 21)
           (.skip)
           (.exit 4))
          (.seq (.block 5 (.seq (.ops [⟨(some 22), none, .move (.t 20)⟩,
             ⟨(some 6), none, .move (.t 22)⟩])
           (.ops [⟨(some 23), none, .move (.t 0)⟩,
             ⟨(some 24), none, .move (.t 4)⟩,
             ⟨(some 25), none, .move (.t 5)⟩,
             ⟨(some 26), none, .move (.t 6)⟩,
             ⟨(some 27), none, .load none (.t 2)⟩,
             ⟨(some 28), none, .call (.c (.fn (.func 69) [] [])) [(.t 23), (.t 24), (.t 25), (.t 26), (.t 27)]⟩])))
          (.ops [⟨(some 29), none, .bin .add (.t 20) (.c (.sc (.int .i64 (1))))⟩,
            ⟨(some 20), none, .move (.t 29)⟩])))))))))
       (.ops [⟨(some 30), none, .bin .add (.t 17) (.c (.sc (.int .i64 (1))))⟩,
         ⟨(some 17), none, .move (.t 30)⟩])))))))))
    (.ops [⟨(some 31), none, .bin .add (.t 14) (.c (.sc (.int .i64 (1))))⟩,
      ⟨(some 14), none, .move (.t 31)⟩])))))))
  (.ops [⟨(some 32), none, .move (.t 0)⟩,
    ⟨(some 33), none, .mkFn (.func 70) [] [(.t 2)]⟩,
    ⟨(some 34), none, .call (.c (.fn (.func 53) [] [])) [(.t 32), (.t 33)]⟩]))),
  []⟩
theorem ok28 : EntryOk Tryz.prog 28 af28 := ⟨Tryz.f28, _, Tryz.func28, by decide, rfl, by kernel_rfl, by kernel_rfl, rfl⟩
/-- (*hemiola/check.checker).jumps -/
noncomputable def af32 : AF := ⟨5, .seq (.ops [⟨(some 1), none, .box (.t 0)⟩])
  (.ops [⟨(some 2), none, .load none (.t 1)⟩,
    ⟨(some 3), none, .mkFn (.func 76) [] [(.t 1)]⟩,
    ⟨(some 4), none, .call (.c (.fn (.func 43) [] [])) [(.t 2), (.t 3)]⟩]),
  []⟩
theorem ok32 : EntryOk Tryz.prog 32 af32 := ⟨Tryz.f32, _, Tryz.func32, by decide, rfl, by kernel_rfl, by kernel_rfl, rfl⟩
/-- (*hemiola/check.checker).add -/
noncomputable def af36 : AF := ⟨22, .seq (.ops [⟨(some 5), none, .box (.t 2)⟩])
  (.seq (.ops [⟨(some 6), none, .move (.t 1)⟩])
  (.cond (.t 6)
   (.draw [⟨false, [0], ⟨(some 7), none, .move (.t 0)⟩⟩,
     ⟨false, [0], ⟨(some 8), none, .move (.t 0)⟩⟩,
     ⟨false, [8], ⟨(some 9), none, .nilCheck (.t 8)⟩⟩,
     ⟨false, [9], ⟨(some 10), none, .faddr 7 (.t 9)⟩⟩,
     ⟨false, [10], ⟨(some 11), none, .load none (.t 10)⟩⟩,
     ⟨false, [0], ⟨(some 12), none, .move (.t 0)⟩⟩,
     ⟨false, [12], ⟨(some 13), none, .nilCheck (.t 12)⟩⟩,
     ⟨false, [13], ⟨(some 14), none, .faddr 6 (.t 13)⟩⟩,
     ⟨false, [14], ⟨(some 15), none, .load none (.t 14)⟩⟩,
     ⟨false, [5], ⟨(some 16), none, .load (some 2) (.t 5)⟩⟩,
     ⟨false, [15, 16], ⟨(some 17), none, .build [(.sc (.int .i64 (0))), (.sc (.int .i64 (0))), (.sc (.int .i64 (0)))] [((0, 1), (.t 15)), ((1, 2), (.t 16))]⟩⟩,
     ⟨false, [17], ⟨(some 18), none, .buildSl 3 [(.t 17)]⟩⟩,
     ⟨true, [11, 18], ⟨(some 19), none, .append 3 24 (.t 11) (.t 18)⟩⟩]
     [⟨(some 20), none, .nilCheck (.t 7)⟩,
     ⟨(some 21), none, .faddr 7 (.t 20)⟩,
     ⟨none, none, .store 1 (.t 21) (.t 19)⟩])
   (.skip))),
  []⟩
theorem ok36 : EntryOk Tryz.prog 36 af36 := ⟨Tryz.f36, _, Tryz.func36, by decide, rfl, by kernel_rfl, by kernel_rfl, rfl⟩
/-- hemiola/check.proper -/
noncomputable def af40 : AF := ⟨11, .seq (.ops [⟨(some 1), none, .box (.t 0)⟩,
    ⟨(some 2), none, .move (.c (.sc (.bool false)))⟩])
  (.seq (.ops [⟨(some 3), none, .faddr 0 (.t 1)⟩,
    ⟨(some 4), none, .load none (.t 3)⟩,
    ⟨(some 5), none, .call (.c (.fn (.func 14) [] [])) [(.t 4), (.c (.sc (.int .i64 (0)))), (.c (.sc (.int .i64 (99))))]⟩,
    ⟨(some 6), none, .move (.t 5)⟩,
    ⟨(some 7), (some (6, true)), .faddr 1 (.t 1)⟩,
    ⟨(some 8), (some (6, true)), .load none (.t 7)⟩,
    ⟨(some 9), (some (6, true)), .call (.c (.fn (.func 14) [] [])) [(.t 8), (.c (.sc (.int .i64 (1)))), (.c (.sc (.int .i64 (1073741824))))]⟩,
    ⟨(some 10), none, .pick (.t 6) (.t 9) (.c (.sc (.bool false)))⟩,
    ⟨(some 2), none, .move (.t 10)⟩])
  (.ret)),
  [.t 2]⟩
theorem ok40 : EntryOk Tryz.prog 40 af40 := ⟨Tryz.f40, _, Tryz.func40, by decide, rfl, by kernel_rfl, by kernel_rfl, rfl⟩
/-- (*hemiola/check.checker).structure$1 -/
noncomputable def af44 : AF := ⟨73, .seq (.ops [⟨(some 4), none, .box (.t 1)⟩,
    ⟨(some 5), none, .move (.c (.sc (.bool false)))⟩])
  (.seq (.ops [⟨(some 12), none, .faddr 21 (.t 4)⟩,
    ⟨(some 13), none, .load none (.t 12)⟩,
    ⟨(some 14), none, .len (.t 13)⟩,
    ⟨(some 15), none, .load none (.t 2)⟩,
    ⟨(some 16), none, .bin .neq (.t 14) (.t 15)⟩,
    ⟨(some 6), none, .move (.t 16)⟩])
  (.seq (.seq (.ops [⟨(some 17), none, .faddr 21 (.t 4)⟩,
    ⟨(some 18), none, .load none (.t 17)⟩,
    ⟨(some 19), none, .len (.t 18)⟩,
    ⟨(some 20), none, .move (.c (.sc (.int .i64 (0))))⟩])
  (.block 0 (.loop (.seq (.ops [⟨(some 21), none, .bin .lss (.t 20) (.t 19)⟩])
    (.seq (.cond (.t 21)
     (.skip)
     (.exit 0))
    (.seq (.block 1 (.seq (.ops [⟨(some 22), none, .iaddrS 2 (.t 18) (.t 20)⟩,
       ⟨(some 23), none, .load (some 2) (.t 22)⟩,
       ⟨(some 8), none, .alloc [(.sl true .full 0 []), (.sl true .full 0 [])]⟩,
       ⟨none, none, .store 2 (.t 8) (.t 23)⟩])
     (.seq (.ops [⟨(some 24), none, .faddr 1 (.t 8)⟩,
       ⟨(some 25), none, .load none (.t 24)⟩,
       ⟨(some 9), none, .move (.t 25)⟩])
     (.seq (.ops [⟨(some 26), none, .move (.t 6)⟩,
       ⟨(some 27), none, .move (.t 26)⟩,
       ⟨(some 28), (some (27, false)), .move (.t 9)⟩,
       ⟨(some 29), (some (27, false)), .len (.t 28)⟩,
       ⟨(some 30), (some (27, false)), .bin .eql (.t 29) (.c (.sc (.int .i64 (0))))⟩,
       ⟨(some 31), none, .pick (.t 27) (.c (.sc (.bool true))) (.t 30)⟩,
       ⟨(some 32), none, .move (.t 31)⟩,
       ⟨(some 33), (some (32, false)), .move (.t 9)⟩,
       ⟨(some 34), (some (32, false)), .iaddrS 2 (.t 33) (.c (.sc (.int .i64 (0))))⟩,
       ⟨(some 35), (some (32, false)), .faddr 0 (.t 34)⟩,
       ⟨(some 36), (some (32, false)), .load none (.t 35)⟩,
       ⟨(some 37), (some (32, false)), .len (.t 36)⟩,
       ⟨(some 38), (some (32, false)), .bin .eql (.t 37) (.c (.sc (.int .i64 (0))))⟩,
       ⟨(some 39), none, .pick (.t 32) (.c (.sc (.bool true))) (.t 38)⟩,
       ⟨(some 40), none, .move (.t 39)⟩,
       ⟨(some 41), (some (40, false)), .move (.t 9)⟩,
       ⟨(some 42), (some (40, false)), .move (.t 9)⟩,
       ⟨(some 43), (some (40, false)), .len (.t 42)⟩,
       ⟨(some 44), (some (40, false)), .bin .sub (.t 43) (.c (.sc (.int .i64 (1))))⟩,
       ⟨(some 45), (some (40, false)), .iaddrS 2 (.t 41) (.t 44)⟩,
       ⟨(some 46), (some (40, false)), .faddr 0 (.t 45)⟩,
       ⟨(some 47), (some (40, false)), .load none (.t 46)⟩,
       ⟨(some 48), (some (40, false)), .len (.t 47)⟩,
       ⟨(some 49), (some (40, false)), .bin .eql (.t 48) (.c (.sc (.int .i64 (0))))⟩,
       ⟨(some 50), none, .pick (.t 40) (.c (.sc (.bool true))) (.t 49)⟩,
       ⟨(some 6), none, .move (.t 50)⟩])
     (.seq (.ops [⟨(some 51), none, .move (.t 9)⟩,
       ⟨(some 52), none, .len (.t 51)⟩,
       ⟨(some 53), none, .move (.c (.sc (.int .i64 (0))))⟩])
     (.block 2 (.loop (.seq (.ops [⟨(some 54), none, .bin .lss (.t 53) (.t 52)⟩])
       (.seq (.cond (.t 54)
        (.skip)
        (.exit 2))
       (.seq (.block 3 (.seq (.ops [⟨(some 55), none, .iaddrS 2 (.t 51) (.t 53)⟩,
          ⟨(some 56), none, .load (some 2) (.t 55)⟩,
          ⟨(some 11), none, .alloc [(.sl true .full 0 []), (.sl true .full 0 [])]⟩,
          ⟨none, none, .store 2 (.t 11) (.t 56)⟩])
        (.ops [⟨(some 57), none, .move (.t 6)⟩,
          ⟨(some 58), none, .move (.t 57)⟩,
          ⟨(some 59), (some (58, false)), .faddr 0 (.t 11)⟩,
          ⟨(some 60), (some (58, false)), .load none (.t 59)⟩,
          ⟨(some 61), (some (58, false)), .len (.t 60)⟩,
          ⟨(some 62), (some (58, false)), .bin .eql (.t 61) (.c (.sc (.int .i64 (0))))⟩,
          ⟨(some 63), (some (58, false)), .move (.t 62)⟩,
          ⟨(some 64), (some (63, true)), .faddr 1 (.t 11)⟩,
          ⟨(some 65), (some (63, true)), .load none (.t 64)⟩,
          ⟨(some 66), (some (63, true)), .len (.t 65)⟩,
          ⟨(some 67), (some (63, true)), .bin .gtr (.t 66) (.c (.sc (.int .i64 (0))))⟩,
          ⟨(some 68), (some (58, false)), .pick (.t 63) (.t 67) (.c (.sc (.bool false)))⟩,
          ⟨(some 69), none, .pick (.t 58) (.c (.sc (.bool true))) (.t 68)⟩,
          ⟨(some 6), none, .move (.t 69)⟩])))
       (.ops [⟨(some 70), none, .bin .add (.t 53) (.c (.sc (.int .i64 (1))))⟩,
         ⟨(some 53), none, .move (.t 70)⟩])))))))))))
    (.ops [⟨(some 71), none, .bin .add (.t 20) (.c (.sc (.int .i64 (1))))⟩,
      ⟨(some 20), none, .move (.t 71)⟩])))))))
  (.seq (.ops [⟨(some 72), none, .move (.t 6)⟩,
    ⟨(some 5), none, .move (.t 72)⟩])
  (.ret)))),
  [.t 5]⟩
theorem ok44 : EntryOk Tryz.prog 44 af44 := ⟨Tryz.f44, _, Tryz.func44, by decide, rfl, by kernel_rfl, by kernel_rfl, rfl⟩
/-- (*hemiola/check.checker).metres$1 -/
noncomputable def af48 : AF := ⟨55, .seq (.ops [⟨(some 4), none, .box (.t 1)⟩,
    ⟨(some 5), none, .move (.c (.sc (.bool false)))⟩])
  (.seq (.ops [⟨(some 12), none, .load (some 22) (.t 4)⟩,
    ⟨(some 13), none, .call (.c (.fn (.func 47) [] [])) [(.t 12)]⟩,
    ⟨(some 11), none, .move (.t 13)⟩,
    ⟨(some 14), none, .extract 0 (.t 11)⟩,
    ⟨(some 15), none, .extract 1 (.t 11)⟩,
    ⟨(some 6), none, .move (.t 14)⟩,
    ⟨(some 7), none, .move (.t 15)⟩])
  (.seq (.ops [⟨(some 16), none, .move (.t 7)⟩,
    ⟨(some 17), none, .bin .neq (.t 16) (.c (.sc (.int .i64 (0))))⟩,
    ⟨(some 18), none, .move (.t 17)⟩,
    ⟨(some 19), (some (18, false)), .faddr 11 (.t 4)⟩,
    ⟨(some 20), (some (18, false)), .load none (.t 19)⟩,
    ⟨(some 21), (some (18, false)), .call (.c (.fn (.func 14) [] [])) [(.t 20), (.c (.sc (.int .i64 (-7)))), (.c (.sc (.int .i64 (7))))]⟩,
    ⟨(some 22), (some (18, false)), .un .not (.t 21)⟩,
    ⟨(some 23), none, .pick (.t 18) (.c (.sc (.bool true))) (.t 22)⟩,
    ⟨(some 8), none, .move (.t 23)⟩])
  (.seq (.seq (.ops [⟨(some 24), none, .load none (.t 2)⟩,
    ⟨(some 25), none, .nilCheck (.t 24)⟩,
    ⟨(some 26), none, .faddr 0 (.t 25)⟩,
    ⟨(some 27), none, .faddr 2 (.t 26)⟩,
    ⟨(some 28), none, .load none (.t 27)⟩,
    ⟨(some 29), none, .len (.t 28)⟩,
    ⟨(some 30), none, .move (.c (.sc (.int .i64 (0))))⟩])
  (.block 0 (.loop (.seq (.ops [⟨(some 31), none, .bin .lss (.t 30) (.t 29)⟩])
    (.seq (.cond (.t 31)
     (.skip)
     (.exit 0))
    (.seq (.block 1 (.seq (.ops [⟨(some 32), none, .iaddrS 6 (.t 28) (.t 30)⟩,
       ⟨(some 33), none, .load (some 6) (.t 32)⟩,
       ⟨(some 10), none, .alloc [(.sc (.int .i64 (0))), (.sc (.int .i64 (0))), (.sc (.string ⟨#[]⟩)), (.sc (.int .i64 (0))), (.sc (.int .i64 (0))), (.sl true .full 0 [])]⟩,
       ⟨none, none, .store 6 (.t 10) (.t 33)⟩])
     (.seq (.ops [⟨(some 34), none, .load none (.t 2)⟩,
       ⟨(some 35), none, .nilCheck (.t 34)⟩,
       ⟨(some 36), none, .faddr 0 (.t 35)⟩,
       ⟨(some 37), none, .faddr 1 (.t 36)⟩,
       ⟨(some 38), none, .load none (.t 37)⟩,
       ⟨(some 39), none, .move (.t 38)⟩,
       ⟨(some 40), (some (39, true)), .move (.t 8)⟩,
       ⟨(some 41), (some (39, true)), .un .not (.t 40)⟩,
       ⟨(some 42), none, .pick (.t 39) (.t 41) (.c (.sc (.bool false)))⟩])
     (.cond (.t 42)
      (.seq (.ops [⟨(some 44), none, .faddr 11 (.t 4)⟩,
        ⟨(some 45), none, .load none (.t 44)⟩,
        ⟨(some 46), none, .faddr 3 (.t 10)⟩,
        ⟨(some 47), none, .load (some 2) (.t 46)⟩,
        ⟨(some 48), none, .call (.c (.fn (.func 49) [] [])) [(.t 45), (.t 47)]⟩,
        ⟨(some 43), none, .move (.t 48)⟩,
        ⟨(some 49), none, .extract 0 (.t 43)⟩,
        ⟨(some 50), none, .extract 1 (.t 43)⟩,
        ⟨(some 7), none, .move (.t 50)⟩])
      (.ops [⟨(some 51), none, .move (.t 7)⟩,
        ⟨(some 52), none, .bin .neq (.t 51) (.c (.sc (.int .i64 (0))))⟩,
        ⟨(some 8), none, .move (.t 52)⟩]))
      (.skip)))))
    (.ops [⟨(some 53), none, .bin .add (.t 30) (.c (.sc (.int .i64 (1))))⟩,
      ⟨(some 30), none, .move (.t 53)⟩])))))))
  (.seq (.ops [⟨(some 54), none, .move (.t 8)⟩,
    ⟨(some 5), none, .move (.t 54)⟩])
  (.ret))))),
  [.t 5]⟩
theorem ok48 : EntryOk Tryz.prog 48 af48 := ⟨Tryz.f48, _, Tryz.func48, by decide, rfl, by kernel_rfl, by kernel_rfl, rfl⟩
/-- (*hemiola/check.checker).each -/
noncomputable def af53 : AF := ⟨63, .seq (.ops [⟨(some 12), none, .move (.t 0)⟩,
    ⟨(some 13), none, .nilCheck (.t 12)⟩,
    ⟨(some 14), none, .faddr 0 (.t 13)⟩,
    ⟨(some 15), none, .faddr 3 (.t 14)⟩,
    ⟨(some 16), none, .load none (.t 15)⟩,
    ⟨(some 17), none, .len (.t 16)⟩,
    ⟨(some 18), none, .move (.c (.sc (.int .i64 (0))))⟩])
  (.block 0 (.loop (.seq (.ops [⟨(some 19), none, .bin .lss (.t 18) (.t 17)⟩])
    (.seq (.cond (.t 19)
     (.skip)
     (.exit 0))
    (.seq (.block 1 (.seq (.ops [⟨(some 20), none, .move (.t 18)⟩,
       ⟨(some 21), none, .iaddrS 22 (.t 16) (.t 18)⟩,
       ⟨(some 22), none, .load (some 22) (.t 21)⟩,
       ⟨(some 5), none, .alloc [(.sc (.int .i64 (0))), (.sc (.int .i64 (0))), (.sc (.int .i64 (0))), (.sc (.int .i64 (0))), (.sc (.int .i64 (0))), (.sc (.int .i64 (0))), (.sc (.int .i64 (0))), (.sc (.int .i64 (0))), (.sc (.int .i64 (0))), (.sc (.int .i64 (0))), (.sc (.int .i64 (0))), (.sc (.int .i64 (0))), (.sc (.bool false)), (.sc (.int .i64 (0))), (.sc (.int .i64 (0))), (.sc (.int .i64 (0))), (.sc (.int .i64 (0))), (.sc (.int .i64 (0))), (.sc (.int .i64 (0))), (.sc (.string ⟨#[]⟩)), (.sl true .full 0 []), (.sl true .full 0 [])]⟩,
       ⟨(some 4), none, .move (.t 20)⟩,
       ⟨none, none, .store 22 (.t 5) (.t 22)⟩])
     (.seq (.ops [⟨(some 23), none, .faddr 21 (.t 5)⟩,
       ⟨(some 24), none, .load none (.t 23)⟩,
       ⟨(some 25), none, .len (.t 24)⟩,
       ⟨(some 26), none, .move (.c (.sc (.int .i64 (0))))⟩])
     (.block 2 (.loop (.seq (.ops [⟨(some 27), none, .bin .lss (.t 26) (.t 25)⟩])
       (.seq (.cond (.t 27)
        (.skip)
        (.exit 2))
       (.seq (.block 3 (.seq (.ops [⟨(some 28), none, .move (.t 26)⟩,
          ⟨(some 29), none, .iaddrS 2 (.t 24) (.t 26)⟩,
          ⟨(some 30), none, .load (some 2) (.t 29)⟩,
          ⟨(some 7), none, .alloc [(.sl true .full 0 []), (.sl true .full 0 [])]⟩,
          ⟨(some 6), none, .move (.t 28)⟩,
          ⟨none, none, .store 2 (.t 7) (.t 30)⟩])
        (.seq (.ops [⟨(some 31), none, .faddr 1 (.t 7)⟩,
          ⟨(some 32), none, .load none (.t 31)⟩,
          ⟨(some 33), none, .len (.t 32)⟩,
          ⟨(some 34), none, .move (.c (.sc (.int .i64 (0))))⟩])
        (.block 4 (.loop (.seq (.ops [⟨(some 35), none, .bin .lss (.t 34) (.t 33)⟩])
          (.seq (.cond (.t 35)
           (.skip)
           (.exit 4))
          (.seq (.block 5 (.seq (.ops [⟨(some 36), none, .move (.t 34)⟩,
             ⟨(some 37), none, .iaddrS 2 (.t 32) (.t 34)⟩,
             ⟨(some 38), none, .load (some 2) (.t 37)⟩,
             ⟨(some 9), none, .alloc [(.sl true .full 0 []), (.sl true .full 0 [])]⟩,
             ⟨(some 8), none, .move (.t 36)⟩,
             ⟨none, none, .store 2 (.t 9) (.t 38)⟩])
           (.seq (.ops [⟨(some 39), none, .faddr 0 (.t 9)⟩,
             ⟨(some 40), none, .load none (.t 39)⟩,
             ⟨(some 41), none, .len (.t 40)⟩,
             ⟨(some 42), none, .move (.c (.sc (.int .i64 (0))))⟩])
           (.block 6 (.loop (.seq (.ops [⟨(some 43), none, .bin .lss (.t 42) (.t 41)⟩])
             (.seq (.cond (.t 43)
              (.skip)
              (.exit 6))
             (.seq (.block 7 (.seq (.ops [⟨(some 44), none, .move (.t 42)⟩,
                ⟨(some 45), none, .iaddrS 13 (.t 40) (.t 42)⟩,
                ⟨(some 46), none, .load (some 13) (.t 45)⟩,
                ⟨(some 11), none, .alloc [(.sc (.int .i64 (0))), (.sc (.int .i64 (0))), (.sc (.int .i64 (0))), (.sc (.int .i64 (0))), (.sc (.int .i64 (0))), (.sl true .full 0 []), (.sl true .full 0 []), (.sc (.int .i64 (0))), (.sc (.int .i64 (0))), (.sc (.int .i64 (0))), (.sl true .full 0 []), (.sc (.int .i64 (0))), (.sc (.int .i64 (0)))]⟩,
                ⟨(some 10), none, .move (.t 44)⟩,
                ⟨none, none, .store 13 (.t 11) (.t 46)⟩])
              (.draw [⟨false, [0], ⟨(some 47), none, .move (.t 0)⟩⟩,
                ⟨false, [1], ⟨(some 48), none, .move (.t 1)⟩⟩,
                ⟨false, [6], ⟨(some 49), none, .move (.t 6)⟩⟩,
                ⟨false, [4], ⟨(some 50), none, .move (.t 4)⟩⟩,
                ⟨false, [8], ⟨(some 51), none, .move (.t 8)⟩⟩,
                ⟨false, [10], ⟨(some 52), none, .move (.t 10)⟩⟩,
                ⟨false, [49, 50, 51, 52], ⟨(some 53), none, .build [(.sc (.int .i64 (0))), (.sc (.int .i64 (0))), (.sc (.int .i64 (0))), (.sc (.int .i64 (0))), (.sc (.int .i64 (0))), (.sc (.int .i64 (0))), (.sc (.int .i64 (0)))] [((0, 1), (.c (.sc (.int .i64 (4))))), ((2, 1), (.t 49)), ((3, 1), (.t 50)), ((4, 1), (.t 51)), ((5, 1), (.t 52))]⟩⟩,
                ⟨false, [11], ⟨(some 54), none, .load (some 13) (.t 11)⟩⟩,
                ⟨false, [48, 53, 54], ⟨(some 55), none, .call (.t 48) [(.t 53), (.t 54)]⟩⟩,
                ⟨false, [11], ⟨(some 56), none, .faddr 0 (.t 11)⟩⟩,
                ⟨false, [56], ⟨(some 57), none, .load (some 2) (.t 56)⟩⟩]
                [⟨(some 58), none, .call (.c (.fn (.func 36) [] [])) [(.t 47), (.t 55), (.t 57)]⟩])))
             (.ops [⟨(some 59), none, .bin .add (.t 42) (.c (.sc (.int .i64 (1))))⟩,
               ⟨(some 42), none, .move (.t 59)⟩])))))))))
          (.ops [⟨(some 60), none, .bin .add (.t 34) (.c (.sc (.int .i64 (1))))⟩,
            ⟨(some 34), none, .move (.t 60)⟩])))))))))
       (.ops [⟨(some 61), none, .bin .add (.t 26) (.c (.sc (.int .i64 (1))))⟩,
         ⟨(some 26), none, .move (.t 61)⟩])))))))))
    (.ops [⟨(some 62), none, .bin .add (.t 18) (.c (.sc (.int .i64 (1))))⟩,
      ⟨(some 18), none, .move (.t 62)⟩])))))),
  []⟩
theorem ok53 : EntryOk Tryz.prog 53 af53 := ⟨Tryz.f53, _, Tryz.func53, by decide, rfl, by kernel_rfl, by kernel_rfl, rfl⟩
/-- hemiola/score.PartOf -/
noncomputable def af57 : AF := ⟨32, .seq (.ops [⟨(some 2), none, .box (.t 0)⟩,
    ⟨(some 4), none, .move (.c (.sc (.int .i64 (0))))⟩,
    ⟨(some 5), none, .move (.c (.sc (.int .i64 (0))))⟩,
    ⟨(some 6), none, .move (.c (.sc (.int .i64 (0))))⟩])
  (.seq (.seq (.ops [⟨(some 9), none, .move (.t 1)⟩,
    ⟨(some 10), none, .bin .lss (.t 9) (.c (.sc (.int .i64 (0))))⟩])
  (.cond (.t 10)
   (.seq (.ops [⟨(some 4), none, .move (.c (.sc (.int .i64 (0))))⟩,
     ⟨(some 5), none, .move (.c (.sc (.int .i64 (0))))⟩,
     ⟨(some 6), none, .move (.c (.sc (.int .i64 (2))))⟩])
   (.ret))
   (.skip)))
  (.seq (.seq (.ops [⟨(some 11), none, .faddr 2 (.t 2)⟩,
    ⟨(some 12), none, .load none (.t 11)⟩,
    ⟨(some 13), none, .len (.t 12)⟩,
    ⟨(some 14), none, .move (.c (.sc (.int .i64 (0))))⟩])
  (.block 0 (.loop (.seq (.ops [⟨(some 15), none, .bin .lss (.t 14) (.t 13)⟩])
    (.seq (.cond (.t 15)
     (.skip)
     (.exit 0))
    (.seq (.block 1 (.seq (.ops [⟨(some 16), none, .move (.t 14)⟩,
       ⟨(some 17), none, .iaddrS 6 (.t 12) (.t 14)⟩,
       ⟨(some 18), none, .load (some 6) (.t 17)⟩,
       ⟨(some 8), none, .alloc [(.sc (.int .i64 (0))), (.sc (.int .i64 (0))), (.sc (.string ⟨#[]⟩)), (.sc (.int .i64 (0))), (.sc (.int .i64 (0))), (.sl true .full 0 [])]⟩,
       ⟨(some 7), none, .move (.t 16)⟩,
       ⟨none, none, .store 6 (.t 8) (.t 18)⟩])
     (.seq (.seq (.ops [⟨(some 19), none, .move (.t 1)⟩,
       ⟨(some 20), none, .faddr 5 (.t 8)⟩,
       ⟨(some 21), none, .load none (.t 20)⟩,
       ⟨(some 22), none, .len (.t 21)⟩,
       ⟨(some 23), none, .bin .lss (.t 19) (.t 22)⟩])
     (.cond (.t 23)
      (.seq (.ops [⟨(some 24), none, .move (.t 7)⟩,
        ⟨(some 25), none, .move (.t 1)⟩,
        ⟨(some 4), none, .move (.t 24)⟩,
        ⟨(some 5), none, .move (.t 25)⟩,
        ⟨(some 6), none, .move (.c (.sc (.int .i64 (0))))⟩])
      (.ret))
      (.skip)))
     (.ops [⟨(some 26), none, .move (.t 1)⟩,
       ⟨(some 27), none, .faddr 5 (.t 8)⟩,
       ⟨(some 28), none, .load none (.t 27)⟩,
       ⟨(some 29), none, .len (.t 28)⟩,
       ⟨(some 30), none, .bin .sub (.t 26) (.t 29)⟩,
       ⟨(some 1), none, .move (.t 30)⟩]))))
    (.ops [⟨(some 31), none, .bin .add (.t 14) (.c (.sc (.int .i64 (1))))⟩,
      ⟨(some 14), none, .move (.t 31)⟩])))))))
  (.seq (.ops [⟨(some 4), none, .move (.c (.sc (.int .i64 (0))))⟩,
    ⟨(some 5), none, .move (.c (.sc (.int .i64 (0))))⟩,
    ⟨(some 6), none, .move (.c (.sc (.int .i64 (2))))⟩])
  (.ret)))),
  [.t 4, .t 5, .t 6]⟩
theorem ok57 : EntryOk Tryz.prog 57 af57 := ⟨Tryz.f57, _, Tryz.func57, by decide, rfl, by kernel_rfl, by kernel_rfl, rfl⟩
/-- hemiola/event.Ties -/
noncomputable def af65 : AF := ⟨11, .seq (.ops [⟨(some 1), none, .box (.t 0)⟩,
    ⟨(some 2), none, .move (.c (.sc (.bool false)))⟩])
  (.seq (.ops [⟨(some 3), none, .faddr 2 (.t 1)⟩,
    ⟨(some 4), none, .load none (.t 3)⟩,
    ⟨(some 5), none, .bin .eql (.t 4) (.c (.sc (.int .i64 (1))))⟩,
    ⟨(some 6), none, .move (.t 5)⟩,
    ⟨(some 7), (some (6, true)), .faddr 5 (.t 1)⟩,
    ⟨(some 8), (some (6, true)), .load none (.t 7)⟩,
    ⟨(some 9), (some (6, true)), .call (.c (.fn (.func 60) [] [])) [(.t 8), (.c (.fn (.func 113) [] []))]⟩,
    ⟨(some 10), none, .pick (.t 6) (.t 9) (.c (.sc (.bool false)))⟩,
    ⟨(some 2), none, .move (.t 10)⟩])
  (.ret)),
  [.t 2]⟩
theorem ok65 : EntryOk Tryz.prog 65 af65 := ⟨Tryz.f65, _, Tryz.func65, by decide, rfl, by kernel_rfl, by kernel_rfl, rfl⟩
/-- (*hemiola/check.checker).spans -/
noncomputable def af71 : AF := ⟨63, .seq (.ops [⟨(some 2), none, .move (.c (.sl true .full 0 []))⟩,
    ⟨(some 3), none, .move (.c (.sl true .full 0 []))⟩])
  (.seq (.ops [⟨(some 4), none, .move (.c (.sl true .full 0 []))⟩])
  (.seq (.ops [⟨(some 5), none, .move (.c (.sl true .full 0 []))⟩])
  (.seq (.seq (.ops [⟨(some 13), none, .move (.t 0)⟩,
    ⟨(some 14), none, .nilCheck (.t 13)⟩,
    ⟨(some 15), none, .faddr 0 (.t 14)⟩,
    ⟨(some 16), none, .faddr 4 (.t 15)⟩,
    ⟨(some 17), none, .load none (.t 16)⟩,
    ⟨(some 18), none, .len (.t 17)⟩,
    ⟨(some 19), none, .move (.c (.sc (.int .i64 (0))))⟩])
  (.block 0 (.loop (.seq (.ops [⟨(some 20), none, .bin .lss (.t 19) (.t 18)⟩])
    (.seq (.cond (.t 20)
     (.skip)
     (.exit 0))
    (.seq (.block 1 (.seq (.ops [⟨(some 21), none, .iaddrS 7 (.t 17) (.t 19)⟩,
       ⟨(some 22), none, .load (some 7) (.t 21)⟩,
       ⟨(some 7), none, .alloc [(.sc (.int .i64 (0))), (.sc (.int .i64 (0))), (.sc (.int .i64 (0))), (.sc (.int .i64 (0))), (.sc (.int .i64 (0))), (.sc (.int .i64 (0))), (.sc (.int .i64 (0)))]⟩,
       ⟨none, none, .store 7 (.t 7) (.t 22)⟩])
     (.seq (.ops [⟨(some 24), none, .move (.t 0)⟩,
       ⟨(some 25), none, .faddr 3 (.t 7)⟩,
       ⟨(some 26), none, .load (some 2) (.t 25)⟩,
       ⟨(some 27), none, .call (.c (.fn (.func 120) [] [])) [(.t 24), (.t 26)]⟩,
       ⟨(some 23), none, .move (.t 27)⟩,
       ⟨(some 28), none, .extract 0 (.t 23)⟩,
       ⟨(some 29), none, .extract 1 (.t 23)⟩,
       ⟨(some 8), none, .alloc [(.sc (.int .i64 (0))), (.sc (.int .i64 (0))), (.sc (.int .i64 (0))), (.sc (.int .i64 (0)))]⟩,
       ⟨none, none, .store 4 (.t 8) (.t 28)⟩,
       ⟨(some 9), none, .move (.t 29)⟩])
     (.seq (.ops [⟨(some 31), none, .move (.t 0)⟩,
       ⟨(some 32), none, .faddr 5 (.t 7)⟩,
       ⟨(some 33), none, .load (some 2) (.t 32)⟩,
       ⟨(some 34), none, .call (.c (.fn (.func 120) [] [])) [(.t 31), (.t 33)]⟩,
       ⟨(some 30), none, .move (.t 34)⟩,
       ⟨(some 35), none, .extract 0 (.t 30)⟩,
       ⟨(some 36), none, .extract 1 (.t 30)⟩,
       ⟨(some 10), none, .alloc [(.sc (.int .i64 (0))), (.sc (.int .i64 (0))), (.sc (.int .i64 (0))), (.sc (.int .i64 (0)))]⟩,
       ⟨none, none, .store 4 (.t 10) (.t 35)⟩,
       ⟨(some 11), none, .move (.t 36)⟩])
     (.seq (.ops [⟨(some 37), none, .faddr 2 (.t 7)⟩,
       ⟨(some 38), none, .load none (.t 37)⟩,
       ⟨(some 39), none, .load (some 4) (.t 8)⟩,
       ⟨(some 40), none, .load (some 4) (.t 10)⟩,
       ⟨(some 41), none, .build [(.sc (.int .i64 (0))), (.sc (.int .i64 (0))), (.sc (.int .i64 (0))), (.sc (.int .i64 (0))), (.sc (.int .i64 (0))), (.sc (.int .i64 (0))), (.sc (.int .i64 (0))), (.sc (.int .i64 (0))), (.sc (.int .i64 (0)))] [((0, 1), (.t 38)), ((1, 4), (.t 39)), ((5, 4), (.t 40))]⟩,
       ⟨(some 12), none, .alloc [(.sc (.int .i64 (0))), (.sc (.int .i64 (0))), (.sc (.int .i64 (0))), (.sc (.int .i64 (0))), (.sc (.int .i64 (0))), (.sc (.int .i64 (0))), (.sc (.int .i64 (0))), (.sc (.int .i64 (0))), (.sc (.int .i64 (0)))]⟩,
       ⟨none, none, .store 9 (.t 12) (.t 41)⟩])
     (.ops [⟨(some 42), none, .move (.t 4)⟩,
       ⟨(some 43), none, .load (some 9) (.t 12)⟩,
       ⟨(some 44), none, .buildSl 9 [(.t 43)]⟩,
       ⟨(some 45), none, .append 9 72 (.t 42) (.t 44)⟩,
       ⟨(some 46), none, .move (.t 5)⟩,
       ⟨(some 47), none, .move (.t 9)⟩,
       ⟨(some 48), none, .un .not (.t 47)⟩,
       ⟨(some 49), none, .move (.t 48)⟩,
       ⟨(some 50), (some (49, false)), .move (.t 11)⟩,
       ⟨(some 51), (some (49, false)), .un .not (.t 50)⟩,
       ⟨(some 52), none, .pick (.t 49) (.c (.sc (.bool true))) (.t 51)⟩,
       ⟨(some 53), none, .move (.t 52)⟩,
       ⟨(some 54), (some (53, false)), .load (some 9) (.t 12)⟩,
       ⟨(some 55), (some (53, false)), .call (.c (.fn (.func 121) [] [])) [(.t 54)]⟩,
       ⟨(some 56), (some (53, false)), .bin .neq (.t 55) (.c (.sc (.int .i64 (0))))⟩,
       ⟨(some 57), none, .pick (.t 53) (.c (.sc (.bool true))) (.t 56)⟩,
       ⟨(some 58), none, .buildSl 1 [(.t 57)]⟩,
       ⟨(some 59), none, .append 1 1 (.t 46) (.t 58)⟩,
       ⟨(some 4), none, .move (.t 45)⟩,
       ⟨(some 5), none, .move (.t 59)⟩]))))))
    (.ops [⟨(some 60), none, .bin .add (.t 19) (.c (.sc (.int .i64 (1))))⟩,
      ⟨(some 19), none, .move (.t 60)⟩])))))))
  (.seq (.ops [⟨(some 61), none, .move (.t 4)⟩,
    ⟨(some 62), none, .move (.t 5)⟩,
    ⟨(some 2), none, .move (.t 61)⟩,
    ⟨(some 3), none, .move (.t 62)⟩])
  (.ret))))),
  [.t 2, .t 3]⟩
theorem ok71 : EntryOk Tryz.prog 71 af71 := ⟨Tryz.f71, _, Tryz.func71, by decide, rfl, by kernel_rfl, by kernel_rfl, rfl⟩
/-- slices.ContainsFunc[[]hemiola/api.Measure,hemiola/api.Measure] -/
noncomputable def af78 : AF := ⟨9, .seq (.ops [⟨(some 4), none, .move (.c (.sc (.bool false)))⟩])
  (.seq (.ops [⟨(some 5), none, .move (.t 0)⟩,
    ⟨(some 6), none, .move (.t 1)⟩,
    ⟨(some 7), none, .call (.c (.fn (.func 129) [] [])) [(.t 5), (.t 6)]⟩,
    ⟨(some 8), none, .bin .geq (.t 7) (.c (.sc (.int .i64 (0))))⟩,
    ⟨(some 4), none, .move (.t 8)⟩])
  (.ret)),
  [.t 4]⟩
theorem ok78 : EntryOk Tryz.prog 78 af78 := ⟨Tryz.f78, _, Tryz.func78, by decide, rfl, by kernel_rfl, by kernel_rfl, rfl⟩
/-- internal/strconv.small -/
noncomputable def af82 : AF := ⟨15, .seq (.ops [⟨(some 2), none, .move (.c (.sc (.string ⟨#[]⟩)))⟩])
  (.seq (.seq (.ops [⟨(some 3), none, .move (.t 0)⟩,
    ⟨(some 4), none, .bin .lss (.t 3) (.c (.sc (.int .i64 (10))))⟩])
  (.cond (.t 4)
   (.seq (.ops [⟨(some 5), none, .move (.t 0)⟩,
     ⟨(some 6), none, .move (.t 0)⟩,
     ⟨(some 7), none, .bin .add (.t 6) (.c (.sc (.int .i64 (1))))⟩,
     ⟨(some 8), none, .slStr (.c (.sc (.string ⟨#[48, 49, 50, 51, 52, 53, 54, 55, 56, 57, 97, 98, 99, 100, 101, 102, 103, 104, 105, 106, 107, 108, 109, 110, 111, 112, 113, 114, 115, 116, 117, 118, 119, 120, 121, 122]⟩))) (some (.t 5)) (some (.t 7))⟩,
     ⟨(some 2), none, .move (.t 8)⟩])
   (.ret))
   (.skip)))
  (.seq (.ops [⟨(some 9), none, .move (.t 0)⟩,
    ⟨(some 10), none, .bin .mul (.t 9) (.c (.sc (.int .i64 (2))))⟩,
    ⟨(some 11), none, .move (.t 0)⟩,
    ⟨(some 12), none, .bin .mul (.t 11) (.c (.sc (.int .i64 (2))))⟩,
    ⟨(some 13), none, .bin .add (.t 12) (.c (.sc (.int .i64 (2))))⟩,
    ⟨(some 14), none, .slStr (.c (.sc (.string ⟨#[48, 48, 48, 49, 48, 50, 48, 51, 48, 52, 48, 53, 48, 54, 48, 55, 48, 56, 48, 57, 49, 48, 49, 49, 49, 50, 49, 51, 49, 52, 49, 53, 49, 54, 49, 55, 49, 56, 49, 57, 50, 48, 50, 49, 50, 50, 50, 51, 50, 52, 50, 53, 50, 54, 50, 55, 50, 56, 50, 57, 51, 48, 51, 49, 51, 50, 51, 51, 51, 52, 51, 53, 51, 54, 51, 55, 51, 56, 51, 57, 52, 48, 52, 49, 52, 50, 52, 51, 52, 52, 52, 53, 52, 54, 52, 55, 52, 56, 52, 57, 53, 48, 53, 49, 53, 50, 53, 51, 53, 52, 53, 53, 53, 54, 53, 55, 53, 56, 53, 57, 54, 48, 54, 49, 54, 50, 54, 51, 54, 52, 54, 53, 54, 54, 54, 55, 54, 56, 54, 57, 55, 48, 55, 49, 55, 50, 55, 51, 55, 52, 55, 53, 55, 54, 55, 55, 55, 56, 55, 57, 56, 48, 56, 49, 56, 50, 56, 51, 56, 52, 56, 53, 56, 54, 56, 55, 56, 56, 56, 57, 57, 48, 57, 49, 57, 50, 57, 51, 57, 52, 57, 53, 57, 54, 57, 55, 57, 56, 57, 57]⟩))) (some (.t 10)) (some (.t 13))⟩,
    ⟨(some 2), none, .move (.t 14)⟩])
  (.ret))),
  [.t 2]⟩
theorem ok82 : EntryOk Tryz.prog 82 af82 := ⟨Tryz.f82, _, Tryz.func82, by decide, rfl, by kernel_rfl, by kernel_rfl, rfl⟩
/-- hemiola/metre.Length -/
noncomputable def af90 : AF := ⟨12, .seq (.ops [⟨(some 1), none, .box (.t 0)⟩,
    ⟨(some 2), none, .move (.c (.sc (.int .i64 (0))))⟩,
    ⟨(some 3), none, .move (.c (.sc (.int .i64 (0))))⟩])
  (.seq (.seq (.ops [⟨(some 5), none, .load (some 8) (.t 1)⟩,
    ⟨(some 6), none, .call (.c (.fn (.func 140) [] [])) [(.t 5)]⟩,
    ⟨(some 4), none, .move (.t 6)⟩])
  (.seq (.ops [⟨(some 7), none, .move (.t 4)⟩,
    ⟨(some 8), none, .bin .neq (.t 7) (.c (.sc (.int .i64 (0))))⟩])
  (.cond (.t 8)
   (.seq (.ops [⟨(some 9), none, .move (.t 4)⟩,
     ⟨(some 2), none, .move (.c (.sc (.int .i64 (0))))⟩,
     ⟨(some 3), none, .move (.t 9)⟩])
   (.ret))
   (.skip))))
  (.seq (.ops [⟨(some 10), none, .load (some 8) (.t 1)⟩,
    ⟨(some 11), none, .call (.c (.fn (.func 141) [] [])) [(.t 10)]⟩,
    ⟨(some 2), none, .move (.t 11)⟩,
    ⟨(some 3), none, .move (.c (.sc (.int .i64 (0))))⟩])
  (.ret))),
  [.t 2, .t 3]⟩
theorem ok90 : EntryOk Tryz.prog 90 af90 := ⟨Tryz.f90, _, Tryz.func90, by decide, rfl, by kernel_rfl, by kernel_rfl, rfl⟩
/-- (*hemiola/check.checker).filled$1$2 -/
noncomputable def af95 : AF := ⟨10, .seq (.ops [⟨(some 4), none, .box (.t 0)⟩,
    ⟨(some 5), none, .move (.c (.sc (.bool false)))⟩])
  (.seq (.ops [⟨(some 6), none, .faddr 1 (.t 4)⟩,
    ⟨(some 7), none, .load none (.t 6)⟩,
    ⟨(some 8), none, .mkFn (.func 97) [] [(.t 1), (.t 2), (.t 3)]⟩,
    ⟨(some 9), none, .call (.c (.fn (.func 96) [] [])) [(.t 7), (.t 8)]⟩,
    ⟨(some 5), none, .move (.t 9)⟩])
  (.ret)),
  [.t 5]⟩
theorem ok95 : EntryOk Tryz.prog 95 af95 := ⟨Tryz.f95, _, Tryz.func95, by decide, rfl, by kernel_rfl, by kernel_rfl, rfl⟩
/-- hemiola/voice.Check -/
noncomputable def af99 : AF := ⟨14, .seq (.ops [⟨(some 2), none, .box (.t 0)⟩,
    ⟨(some 4), none, .move (.c (.sc (.int .i64 (0))))⟩])
  (.seq (.ops [⟨(some 8), none, .load (some 2) (.t 2)⟩,
    ⟨(some 9), none, .move (.t 1)⟩,
    ⟨(some 10), none, .call (.c (.fn (.func 145) [] [])) [(.t 8), (.t 9)]⟩,
    ⟨(some 7), none, .move (.t 10)⟩,
    ⟨(some 11), none, .extract 0 (.t 7)⟩,
    ⟨(some 12), none, .extract 1 (.t 7)⟩,
    ⟨(some 5), none, .move (.t 11)⟩,
    ⟨(some 6), none, .move (.t 12)⟩])
  (.seq (.ops [⟨(some 13), none, .move (.t 6)⟩,
    ⟨(some 4), none, .move (.t 13)⟩])
  (.ret))),
  [.t 4]⟩
theorem ok99 : EntryOk Tryz.prog 99 af99 := ⟨Tryz.f99, _, Tryz.func99, by decide, rfl, by kernel_rfl, by kernel_rfl, rfl⟩
/-- hemiola/event.Same -/
noncomputable def af103 : AF := ⟨73, .seq (.ops [⟨(some 2), none, .box (.t 0)⟩,
    ⟨(some 3), none, .box (.t 1)⟩,
    ⟨(some 4), none, .move (.c (.sc (.bool false)))⟩])
  (.seq (.ops [⟨(some 5), none, .faddr 2 (.t 2)⟩,
    ⟨(some 6), none, .load none (.t 5)⟩,
    ⟨(some 7), none, .faddr 2 (.t 3)⟩,
    ⟨(some 8), none, .load none (.t 7)⟩,
    ⟨(some 9), none, .bin .eql (.t 6) (.t 8)⟩,
    ⟨(some 10), none, .move (.t 9)⟩,
    ⟨(some 11), (some (10, true)), .faddr 3 (.t 2)⟩,
    ⟨(some 12), (some (10, true)), .load (some 2) (.t 11)⟩,
    ⟨(some 13), (some (10, true)), .faddr 3 (.t 3)⟩,
    ⟨(some 14), (some (10, true)), .load (some 2) (.t 13)⟩,
    ⟨(some 15), (some (10, true)), .eqC [.i, .i] false (.t 12) (.t 14)⟩,
    ⟨(some 16), none, .pick (.t 10) (.t 15) (.c (.sc (.bool false)))⟩,
    ⟨(some 17), none, .move (.t 16)⟩,
    ⟨(some 18), (some (17, true)), .faddr 7 (.t 2)⟩,
    ⟨(some 19), (some (17, true)), .load none (.t 18)⟩,
    ⟨(some 20), (some (17, true)), .faddr 7 (.t 3)⟩,
    ⟨(some 21), (some (17, true)), .load none (.t 20)⟩,
    ⟨(some 22), (some (17, true)), .bin .eql (.t 19) (.t 21)⟩,
    ⟨(some 23), none, .pick (.t 17) (.t 22) (.c (.sc (.bool false)))⟩,
    ⟨(some 24), none, .move (.t 23)⟩,
    ⟨(some 25), (some (24, true)), .faddr 8 (.t 2)⟩,
    ⟨(some 26), (some (24, true)), .load none (.t 25)⟩,
    ⟨(some 27), (some (24, true)), .faddr 8 (.t 3)⟩,
    ⟨(some 28), (some (24, true)), .load none (.t 27)⟩,
    ⟨(some 29), (some (24, true)), .bin .eql (.t 26) (.t 28)⟩,
    ⟨(some 30), none, .pick (.t 24) (.t 29) (.c (.sc (.bool false)))⟩,
    ⟨(some 31), none, .move (.t 30)⟩,
    ⟨(some 32), (some (31, true)), .faddr 9 (.t 2)⟩,
    ⟨(some 33), (some (31, true)), .load none (.t 32)⟩,
    ⟨(some 34), (some (31, true)), .faddr 9 (.t 3)⟩,
    ⟨(some 35), (some (31, true)), .load none (.t 34)⟩,
    ⟨(some 36), (some (31, true)), .bin .eql (.t 33) (.t 35)⟩,
    ⟨(some 37), none, .pick (.t 31) (.t 36) (.c (.sc (.bool false)))⟩,
    ⟨(some 38), none, .move (.t 37)⟩,
    ⟨(some 39), (some (38, true)), .faddr 11 (.t 2)⟩,
    ⟨(some 40), (some (38, true)), .load none (.t 39)⟩,
    ⟨(some 41), (some (38, true)), .faddr 11 (.t 3)⟩,
    ⟨(some 42), (some (38, true)), .load none (.t 41)⟩,
    ⟨(some 43), (some (38, true)), .bin .eql (.t 40) (.t 42)⟩,
    ⟨(some 44), none, .pick (.t 38) (.t 43) (.c (.sc (.bool false)))⟩,
    ⟨(some 45), none, .move (.t 44)⟩,
    ⟨(some 46), (some (45, true)), .faddr 12 (.t 2)⟩,
    ⟨(some 47), (some (45, true)), .load none (.t 46)⟩,
    ⟨(some 48), (some (45, true)), .faddr 12 (.t 3)⟩,
    ⟨(some 49), (some (45, true)), .load none (.t 48)⟩,
    ⟨(some 50), (some (45, true)), .bin .eql (.t 47) (.t 49)⟩,
    ⟨(some 51), none, .pick (.t 45) (.t 50) (.c (.sc (.bool false)))⟩,
    ⟨(some 52), none, .move (.t 51)⟩,
    ⟨(some 53), (some (52, true)), .faddr 5 (.t 2)⟩,
    ⟨(some 54), (some (52, true)), .load none (.t 53)⟩,
    ⟨(some 55), (some (52, true)), .faddr 5 (.t 3)⟩,
    ⟨(some 56), (some (52, true)), .load none (.t 55)⟩,
    ⟨(some 57), (some (52, true)), .call (.c (.fn (.func 146) [] [])) [(.t 54), (.t 56)]⟩,
    ⟨(some 58), none, .pick (.t 52) (.t 57) (.c (.sc (.bool false)))⟩,
    ⟨(some 59), none, .move (.t 58)⟩,
    ⟨(some 60), (some (59, true)), .faddr 6 (.t 2)⟩,
    ⟨(some 61), (some (59, true)), .load none (.t 60)⟩,
    ⟨(some 62), (some (59, true)), .faddr 6 (.t 3)⟩,
    ⟨(some 63), (some (59, true)), .load none (.t 62)⟩,
    ⟨(some 64), (some (59, true)), .call (.c (.fn (.func 147) [] [])) [(.t 61), (.t 63)]⟩,
    ⟨(some 65), none, .pick (.t 59) (.t 64) (.c (.sc (.bool false)))⟩,
    ⟨(some 66), none, .move (.t 65)⟩,
    ⟨(some 67), (some (66, true)), .faddr 10 (.t 2)⟩,
    ⟨(some 68), (some (66, true)), .load none (.t 67)⟩,
    ⟨(some 69), (some (66, true)), .faddr 10 (.t 3)⟩,
    ⟨(some 70), (some (66, true)), .load none (.t 69)⟩,
    ⟨(some 71), (some (66, true)), .call (.c (.fn (.func 148) [] [])) [(.t 68), (.t 70)]⟩,
    ⟨(some 72), none, .pick (.t 66) (.t 71) (.c (.sc (.bool false)))⟩,
    ⟨(some 4), none, .move (.t 72)⟩])
  (.ret)),
  [.t 4]⟩
theorem ok103 : EntryOk Tryz.prog 103 af103 := ⟨Tryz.f103, _, Tryz.func103, by decide, rfl, by kernel_rfl, by kernel_rfl, rfl⟩
/-- hemiola/score.check -/
noncomputable def af114 : AF := ⟨25, .seq (.ops [⟨(some 2), none, .box (.t 0)⟩,
    ⟨(some 3), none, .box (.t 1)⟩,
    ⟨(some 4), none, .move (.c (.sc (.int .i64 (0))))⟩])
  (.seq (.seq (.ops [⟨(some 5), none, .faddr 0 (.t 3)⟩,
    ⟨(some 6), none, .load none (.t 5)⟩,
    ⟨(some 7), none, .bin .neq (.t 6) (.c (.sc (.int .i64 (4))))⟩])
  (.cond (.t 7)
   (.seq (.ops [⟨(some 4), none, .move (.c (.sc (.int .i64 (11))))⟩])
   (.ret))
   (.skip)))
  (.seq (.seq (.draw [⟨true, [3], ⟨(some 8), none, .faddr 5 (.t 3)⟩⟩,
    ⟨true, [8], ⟨(some 9), none, .load none (.t 8)⟩⟩,
    ⟨true, [9], ⟨(some 10), none, .bin .lss (.t 9) (.c (.sc (.int .i64 (0))))⟩⟩,
    ⟨true, [10], ⟨(some 11), none, .move (.t 10)⟩⟩,
    ⟨false, [3, 11], ⟨(some 12), (some (11, false)), .faddr 5 (.t 3)⟩⟩,
    ⟨false, [12, 11], ⟨(some 13), (some (11, false)), .load none (.t 12)⟩⟩,
    ⟨false, [2, 11], ⟨(some 14), (some (11, false)), .load (some 6) (.t 2)⟩⟩,
    ⟨false, [3, 11], ⟨(some 15), (some (11, false)), .faddr 3 (.t 3)⟩⟩,
    ⟨false, [15, 11], ⟨(some 16), (some (11, false)), .load none (.t 15)⟩⟩,
    ⟨false, [3, 11], ⟨(some 17), (some (11, false)), .faddr 2 (.t 3)⟩⟩,
    ⟨false, [17, 11], ⟨(some 18), (some (11, false)), .load none (.t 17)⟩⟩,
    ⟨false, [3, 11], ⟨(some 19), (some (11, false)), .faddr 4 (.t 3)⟩⟩,
    ⟨false, [19, 11], ⟨(some 20), (some (11, false)), .load none (.t 19)⟩⟩,
    ⟨false, [14, 16, 18, 20, 11], ⟨(some 21), (some (11, false)), .call (.c (.fn (.func 115) [] [])) [(.t 14), (.t 16), (.t 18), (.t 20)]⟩⟩,
    ⟨false, [21, 11], ⟨(some 22), (some (11, false)), .len (.t 21)⟩⟩]
    [⟨(some 23), (some (11, false)), .bin .geq (.t 13) (.t 22)⟩,
    ⟨(some 24), none, .pick (.t 11) (.c (.sc (.bool true))) (.t 23)⟩])
  (.cond (.t 24)
   (.seq (.ops [⟨(some 4), none, .move (.c (.sc (.int .i64 (2))))⟩])
   (.ret))
   (.skip)))
  (.seq (.ops [⟨(some 4), none, .move (.c (.sc (.int .i64 (0))))⟩])
  (.ret)))),
  [.t 4]⟩
theorem ok114 : EntryOk Tryz.prog 114 af114 := ⟨Tryz.f114, _, Tryz.func114, by decide, rfl, by kernel_rfl, by kernel_rfl, rfl⟩
/-- slices.IndexFunc[[]byte,byte] -/
noncomputable def af137 : AF := ⟨19, .seq (.ops [⟨(some 4), none, .move (.c (.sc (.int .i64 (0))))⟩])
  (.seq (.seq (.ops [⟨(some 6), none, .move (.t 0)⟩,
    ⟨(some 7), none, .len (.t 6)⟩,
    ⟨(some 8), none, .move (.c (.sc (.int .i64 (0))))⟩])
  (.block 0 (.loop (.seq (.ops [⟨(some 9), none, .bin .lss (.t 8) (.t 7)⟩])
    (.seq (.cond (.t 9)
     (.skip)
     (.exit 0))
    (.seq (.block 1 (.seq (.ops [⟨(some 10), none, .move (.t 8)⟩,
       ⟨(some 5), none, .move (.t 10)⟩])
     (.seq (.ops [⟨(some 11), none, .move (.t 1)⟩,
       ⟨(some 12), none, .move (.t 0)⟩,
       ⟨(some 13), none, .move (.t 5)⟩,
       ⟨(some 14), none, .iaddrS 1 (.t 12) (.t 13)⟩,
       ⟨(some 15), none, .load none (.t 14)⟩,
       ⟨(some 16), none, .call (.t 11) [(.t 15)]⟩])
     (.cond (.t 16)
      (.seq (.ops [⟨(some 17), none, .move (.t 5)⟩,
        ⟨(some 4), none, .move (.t 17)⟩])
      (.ret))
      (.skip)))))
    (.ops [⟨(some 18), none, .bin .add (.t 8) (.c (.sc (.int .i64 (1))))⟩,
      ⟨(some 8), none, .move (.t 18)⟩])))))))
  (.seq (.ops [⟨(some 4), none, .move (.c (.sc (.int .i64 (-1))))⟩])
  (.ret))),
  [.t 4]⟩
theorem ok137 : EntryOk Tryz.prog 137 af137 := ⟨Tryz.f137, _, Tryz.func137, by decide, rfl, by kernel_rfl, by kernel_rfl, rfl⟩
/-- hemiola/metre.length -/
noncomputable def af141 : AF := ⟨8, .seq (.ops [⟨(some 1), none, .box (.t 0)⟩,
    ⟨(some 2), none, .move (.c (.sc (.int .i64 (0))))⟩])
  (.seq (.draw [⟨false, [1], ⟨(some 3), none, .faddr 0 (.t 1)⟩⟩,
    ⟨false, [3], ⟨(some 4), none, .load none (.t 3)⟩⟩,
    ⟨false, [1], ⟨(some 5), none, .load (some 8) (.t 1)⟩⟩,
    ⟨false, [5], ⟨(some 6), none, .call (.c (.fn (.func 170) [] [])) [(.t 5)]⟩⟩]
    [⟨(some 7), none, .bin .mul (.t 4) (.t 6)⟩,
    ⟨(some 2), none, .move (.t 7)⟩])
  (.ret)),
  [.t 2]⟩
theorem ok141 : EntryOk Tryz.prog 141 af141 := ⟨Tryz.f141, _, Tryz.func141, by decide, rfl, by kernel_rfl, by kernel_rfl, rfl⟩
/-- hemiola/voice.checked -/
noncomputable def af145 : AF := ⟨31, .seq (.ops [⟨(some 2), none, .box (.t 0)⟩,
    ⟨(some 4), none, .move (.c (.sl true .full 0 []))⟩,
    ⟨(some 5), none, .move (.c (.sc (.int .i64 (0))))⟩])
  (.seq (.ops [⟨(some 9), none, .load (some 2) (.t 2)⟩,
    ⟨(some 10), none, .move (.t 1)⟩,
    ⟨(some 11), none, .call (.c (.fn (.func 171) [] [])) [(.t 9), (.t 10)]⟩,
    ⟨(some 8), none, .move (.t 11)⟩,
    ⟨(some 12), none, .extract 0 (.t 8)⟩,
    ⟨(some 13), none, .extract 1 (.t 8)⟩,
    ⟨(some 6), none, .move (.t 12)⟩,
    ⟨(some 7), none, .move (.t 13)⟩])
  (.seq (.seq (.ops [⟨(some 14), none, .move (.t 7)⟩,
    ⟨(some 15), none, .bin .eql (.t 14) (.c (.sc (.int .i64 (0))))⟩,
    ⟨(some 16), none, .move (.t 15)⟩,
    ⟨(some 17), (some (16, true)), .move (.t 6)⟩,
    ⟨(some 18), (some (16, true)), .len (.t 17)⟩,
    ⟨(some 19), (some (16, true)), .bin .gtr (.t 18) (.c (.sc (.int .i64 (0))))⟩,
    ⟨(some 20), none, .pick (.t 16) (.t 19) (.c (.sc (.bool false)))⟩,
    ⟨(some 21), none, .move (.t 20)⟩,
    ⟨(some 22), (some (21, true)), .move (.t 6)⟩,
    ⟨(some 23), (some (21, true)), .call (.c (.fn (.func 172) [] [])) [(.t 22)]⟩,
    ⟨(some 24), (some (21, true)), .move (.t 1)⟩,
    ⟨(some 25), (some (21, true)), .bin .neq (.t 23) (.t 24)⟩,
    ⟨(some 26), none, .pick (.t 21) (.t 25) (.c (.sc (.bool false)))⟩])
  (.cond (.t 26)
   (.ops [⟨(some 7), none, .move (.c (.sc (.int .i64 (20))))⟩])
   (.skip)))
  (.seq (.seq (.ops [⟨(some 27), none, .move (.t 7)⟩,
    ⟨(some 28), none, .bin .neq (.t 27) (.c (.sc (.int .i64 (0))))⟩])
  (.cond (.t 28)
   (.seq (.ops [⟨(some 29), none, .move (.t 7)⟩,
     ⟨(some 4), none, .move (.c (.sl true .full 0 []))⟩,
     ⟨(some 5), none, .move (.t 29)⟩])
   (.ret))
   (.skip)))
  (.seq (.ops [⟨(some 30), none, .move (.t 6)⟩,
    ⟨(some 4), none, .move (.t 30)⟩,
    ⟨(some 5), none, .move (.c (.sc (.int .i64 (0))))⟩])
  (.ret))))),
  [.t 4, .t 5]⟩
theorem ok145 : EntryOk Tryz.prog 145 af145 := ⟨Tryz.f145, _, Tryz.func145, by decide, rfl, by kernel_rfl, by kernel_rfl, rfl⟩
/-- hemiola/event.fermata -/
noncomputable def af149 : AF := ⟨7, .seq (.ops [⟨(some 2), none, .move (.c (.sc (.int .i64 (0))))⟩])
  (.seq (.seq (.ops [⟨(some 3), none, .move (.t 0)⟩,
    ⟨(some 4), none, .bin .lss (.t 3) (.c (.sc (.int .i64 (0))))⟩])
  (.cond (.t 4)
   (.seq (.ops [⟨(some 2), none, .move (.c (.sc (.int .i64 (0))))⟩])
   (.ret))
   (.skip)))
  (.seq (.ops [⟨(some 5), none, .move (.t 0)⟩,
    ⟨(some 6), none, .bin .and (.t 5) (.c (.sc (.int .i64 (16))))⟩,
    ⟨(some 2), none, .move (.t 6)⟩])
  (.ret))),
  [.t 2]⟩
theorem ok149 : EntryOk Tryz.prog 149 af149 := ⟨Tryz.f149, _, Tryz.func149, by decide, rfl, by kernel_rfl, by kernel_rfl, rfl⟩
/-- hemiola/voice.total -/
noncomputable def af172 : AF := ⟨17, .seq (.ops [⟨(some 2), none, .move (.c (.sc (.int .i64 (0))))⟩])
  (.seq (.ops [⟨(some 3), none, .move (.c (.sc (.int .i64 (0))))⟩])
  (.seq (.seq (.ops [⟨(some 6), none, .move (.t 0)⟩,
    ⟨(some 7), none, .len (.t 6)⟩,
    ⟨(some 8), none, .move (.c (.sc (.int .i64 (0))))⟩])
  (.block 0 (.loop (.seq (.ops [⟨(some 9), none, .bin .lss (.t 8) (.t 7)⟩])
    (.seq (.cond (.t 9)
     (.skip)
     (.exit 0))
    (.seq (.block 1 (.seq (.ops [⟨(some 10), none, .iaddrS 1 (.t 6) (.t 8)⟩,
       ⟨(some 11), none, .load none (.t 10)⟩,
       ⟨(some 5), none, .move (.t 11)⟩])
     (.ops [⟨(some 12), none, .move (.t 3)⟩,
       ⟨(some 13), none, .move (.t 5)⟩,
       ⟨(some 14), none, .bin .add (.t 12) (.t 13)⟩,
       ⟨(some 3), none, .move (.t 14)⟩])))
    (.ops [⟨(some 15), none, .bin .add (.t 8) (.c (.sc (.int .i64 (1))))⟩,
      ⟨(some 8), none, .move (.t 15)⟩])))))))
  (.seq (.ops [⟨(some 16), none, .move (.t 3)⟩,
    ⟨(some 2), none, .move (.t 16)⟩])
  (.ret)))),
  [.t 2]⟩
theorem ok172 : EntryOk Tryz.prog 172 af172 := ⟨Tryz.f172, _, Tryz.func172, by decide, rfl, by kernel_rfl, by kernel_rfl, rfl⟩
end Go.Proofs.YtfhijafkpenogaaGreatDoor
