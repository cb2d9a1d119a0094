/- Resolved code, printed by a program. -/
import Derived.Test.YtfhijafkpenogaaGreatDoorPE19
import Derived.Test.YtfhijafkpenogaaGreatDoorProg
namespace Go.Proofs.YtfhijafkpenogaaGreatDoor
open Go.PE

/-- hemiola/check.Text -/
noncomputable def af7 : AF := ⟨33, .seq (.ops [⟨(some 1), none, .box (.t 0)⟩,
    ⟨(some 2), none, .move (.c (.sc (.string ⟨#[]⟩)))⟩])
  (.seq (.ops [⟨(some 6), none, .faddr 0 (.t 1)⟩,
    ⟨(some 7), none, .load none (.t 6)⟩,
    ⟨(some 8), none, .call (.c (.fn (.func 6) [] [])) [(.t 7)]⟩,
    ⟨(some 5), none, .move (.t 8)⟩,
    ⟨(some 9), none, .extract 0 (.t 5)⟩,
    ⟨(some 10), none, .extract 1 (.t 5)⟩,
    ⟨(some 3), none, .move (.t 9)⟩,
    ⟨(some 4), none, .move (.t 10)⟩])
  (.seq (.seq (.ops [⟨(some 11), none, .move (.t 4)⟩,
    ⟨(some 12), none, .bin .neq (.t 11) (.c (.sc (.int .i64 (0))))⟩,
    ⟨(some 13), none, .move (.t 12)⟩,
    ⟨(some 14), (some (13, false)), .faddr 1 (.t 1)⟩,
    ⟨(some 15), (some (13, false)), .load (some 2) (.t 14)⟩,
    ⟨(some 16), (some (13, false)), .build [(.sc (.int .i64 (0))), (.sc (.int .i64 (0)))] []⟩,
    ⟨(some 17), (some (13, false)), .eqC [.i, .i] false (.t 15) (.t 16)⟩,
    ⟨(some 18), none, .pick (.t 13) (.c (.sc (.bool true))) (.t 17)⟩])
  (.cond (.t 18)
   (.seq (.ops [⟨(some 19), none, .move (.t 3)⟩,
     ⟨(some 2), none, .move (.t 19)⟩])
   (.ret))
   (.skip)))
  (.seq (.draw [⟨false, [3], ⟨(some 20), none, .move (.t 3)⟩⟩,
    ⟨false, [20], ⟨(some 21), none, .bin .add (.t 20) (.c (.sc (.string ⟨#[32, 64]⟩)))⟩⟩,
    ⟨false, [1], ⟨(some 22), none, .faddr 1 (.t 1)⟩⟩,
    ⟨false, [22], ⟨(some 23), none, .faddr 0 (.t 22)⟩⟩,
    ⟨false, [23], ⟨(some 24), none, .load none (.t 23)⟩⟩,
    ⟨false, [24], ⟨(some 25), none, .call (.c (.fn (.func 15) [] [])) [(.t 24)]⟩⟩,
    ⟨false, [21, 25], ⟨(some 26), none, .bin .add (.t 21) (.t 25)⟩⟩,
    ⟨false, [26], ⟨(some 27), none, .bin .add (.t 26) (.c (.sc (.string ⟨#[46]⟩)))⟩⟩,
    ⟨false, [1], ⟨(some 28), none, .faddr 1 (.t 1)⟩⟩,
    ⟨false, [28], ⟨(some 29), none, .faddr 1 (.t 28)⟩⟩,
    ⟨false, [29], ⟨(some 30), none, .load none (.t 29)⟩⟩,
    ⟨true, [30], ⟨(some 31), none, .call (.c (.fn (.func 15) [] [])) [(.t 30)]⟩⟩]
    [⟨(some 32), none, .bin .add (.t 27) (.t 31)⟩,
    ⟨(some 2), none, .move (.t 32)⟩])
  (.ret)))),
  [.t 2]⟩
theorem ok7 : EntryOk Tryz.prog 7 af7 := ⟨Tryz.f7, _, Tryz.func7, by decide, rfl, by kernel_rfl, by kernel_rfl, rfl⟩
/-- hemiola/check.names -/
noncomputable def af13 : AF := ⟨2, .seq (.ops [⟨(some 0), none, .move (.c (.sl true .full 0 []))⟩])
  (.seq (.ops [⟨(some 1), none, .buildSl 1 [(.c (.sc (.string ⟨#[108, 105, 109, 105, 116, 115]⟩))), (.c (.sc (.string ⟨#[105, 100, 115]⟩))), (.c (.sc (.string ⟨#[115, 116, 114, 117, 99, 116, 117, 114, 101]⟩))), (.c (.sc (.string ⟨#[99, 108, 101, 102, 115]⟩))), (.c (.sc (.string ⟨#[109, 101, 116, 114, 101, 115]⟩))), (.c (.sc (.string ⟨#[118, 111, 105, 99, 101, 115]⟩))), (.c (.sc (.string ⟨#[116, 117, 112, 108, 101, 116, 115]⟩))), (.c (.sc (.string ⟨#[101, 118, 101, 110, 116, 115]⟩))), (.c (.sc (.string ⟨#[112, 105, 116, 99, 104, 101, 115]⟩))), (.c (.sc (.string ⟨#[116, 105, 101, 115]⟩))), (.c (.sc (.string ⟨#[108, 121, 114, 105, 99, 115]⟩))), (.c (.sc (.string ⟨#[101, 110, 100, 115]⟩))), (.c (.sc (.string ⟨#[110, 101, 115, 116, 105, 110, 103]⟩))), (.c (.sc (.string ⟨#[114, 101, 112, 101, 97, 116, 115]⟩))), (.c (.sc (.string ⟨#[106, 117, 109, 112, 115]⟩))), (.c (.sc (.string ⟨#[116, 101, 109, 112, 105]⟩))), (.c (.sc (.string ⟨#[109, 97, 114, 103, 105, 110, 115]⟩)))]⟩,
    ⟨(some 0), none, .move (.t 1)⟩])
  (.ret)),
  [.t 0]⟩
theorem ok13 : EntryOk Tryz.prog 13 af13 := ⟨Tryz.f13, _, Tryz.func13, by decide, rfl, by kernel_rfl, by kernel_rfl, rfl⟩
/-- internal/strconv.Itoa -/
noncomputable def af17 : AF := ⟨5, .seq (.ops [⟨(some 2), none, .move (.c (.sc (.string ⟨#[]⟩)))⟩])
  (.seq (.ops [⟨(some 3), none, .move (.t 0)⟩,
    ⟨(some 4), none, .call (.c (.fn (.func 35) [] [])) [(.t 3), (.c (.sc (.int .i64 (10))))]⟩,
    ⟨(some 2), none, .move (.t 4)⟩])
  (.ret)),
  [.t 2]⟩
theorem ok17 : EntryOk Tryz.prog 17 af17 := ⟨Tryz.f17, _, Tryz.func17, by decide, rfl, by kernel_rfl, by kernel_rfl, rfl⟩
/-- (*hemiola/check.checker).clefs -/
noncomputable def af21 : AF := ⟨35, .seq (.seq (.ops [⟨(some 6), none, .move (.t 0)⟩,
    ⟨(some 7), none, .nilCheck (.t 6)⟩,
    ⟨(some 8), none, .faddr 0 (.t 7)⟩,
    ⟨(some 9), none, .faddr 2 (.t 8)⟩,
    ⟨(some 10), none, .load none (.t 9)⟩,
    ⟨(some 11), none, .len (.t 10)⟩,
    ⟨(some 12), none, .move (.c (.sc (.int .i64 (0))))⟩])
  (.block 0 (.loop (.seq (.ops [⟨(some 13), none, .bin .lss (.t 12) (.t 11)⟩])
    (.seq (.cond (.t 13)
     (.skip)
     (.exit 0))
    (.seq (.block 1 (.seq (.ops [⟨(some 14), none, .iaddrS 6 (.t 10) (.t 12)⟩,
       ⟨(some 15), none, .load (some 6) (.t 14)⟩,
       ⟨(some 3), none, .alloc [(.sc (.int .i64 (0))), (.sc (.int .i64 (0))), (.sc (.string ⟨#[]⟩)), (.sc (.int .i64 (0))), (.sc (.int .i64 (0))), (.sl true .full 0 [])]⟩,
       ⟨none, none, .store 6 (.t 3) (.t 15)⟩])
     (.seq (.ops [⟨(some 16), none, .faddr 5 (.t 3)⟩,
       ⟨(some 17), none, .load none (.t 16)⟩,
       ⟨(some 18), none, .len (.t 17)⟩,
       ⟨(some 19), none, .move (.c (.sc (.int .i64 (0))))⟩])
     (.block 2 (.loop (.seq (.ops [⟨(some 20), none, .bin .lss (.t 19) (.t 18)⟩])
       (.seq (.cond (.t 20)
        (.skip)
        (.exit 2))
       (.seq (.block 3 (.seq (.ops [⟨(some 21), none, .iaddrS 3 (.t 17) (.t 19)⟩,
          ⟨(some 22), none, .load (some 3) (.t 21)⟩,
          ⟨(some 5), none, .alloc [(.sc (.int .i64 (0))), (.sc (.int .i64 (0))), (.sc (.int .i64 (0)))]⟩,
          ⟨none, none, .store 3 (.t 5) (.t 22)⟩])
        (.draw [⟨false, [0], ⟨(some 23), none, .move (.t 0)⟩⟩,
          ⟨false, [5], ⟨(some 24), none, .faddr 2 (.t 5)⟩⟩,
          ⟨false, [24], ⟨(some 25), none, .load none (.t 24)⟩⟩,
          ⟨false, [25], ⟨(some 26), none, .call (.c (.fn (.func 45) [] [])) [(.t 25)]⟩⟩,
          ⟨false, [26], ⟨(some 27), none, .bin .neq (.t 26) (.c (.sc (.int .i64 (0))))⟩⟩,
          ⟨false, [5], ⟨(some 28), none, .faddr 0 (.t 5)⟩⟩,
          ⟨false, [28], ⟨(some 29), none, .load (some 2) (.t 28)⟩⟩]
          [⟨(some 30), none, .call (.c (.fn (.func 36) [] [])) [(.t 23), (.t 27), (.t 29)]⟩])))
       (.ops [⟨(some 31), none, .bin .add (.t 19) (.c (.sc (.int .i64 (1))))⟩,
         ⟨(some 19), none, .move (.t 31)⟩])))))))))
    (.ops [⟨(some 32), none, .bin .add (.t 12) (.c (.sc (.int .i64 (1))))⟩,
      ⟨(some 12), none, .move (.t 32)⟩])))))))
  (.ops [⟨(some 33), none, .move (.t 0)⟩,
    ⟨(some 34), none, .call (.c (.fn (.func 43) [] [])) [(.t 33), (.c (.fn (.func 46) [] []))]⟩]),
  []⟩
theorem ok21 : EntryOk Tryz.prog 21 af21 := ⟨Tryz.f21, _, Tryz.func21, by decide, rfl, by kernel_rfl, by kernel_rfl, rfl⟩
/-- (*hemiola/check.checker).events -/
noncomputable def af25 : AF := ⟨4, .ops [⟨(some 2), none, .move (.t 0)⟩,
    ⟨(some 3), none, .call (.c (.fn (.func 53) [] [])) [(.t 2), (.c (.fn (.func 54) [] []))]⟩],
  []⟩
theorem ok25 : EntryOk Tryz.prog 25 af25 := ⟨Tryz.f25, _, Tryz.func25, by decide, rfl, by kernel_rfl, by kernel_rfl, rfl⟩
/-- (*hemiola/check.checker).ends -/
noncomputable def af29 : AF := ⟨31, .seq (.ops [⟨(some 7), none, .move (.t 0)⟩,
    ⟨(some 8), none, .call (.c (.fn (.func 71) [] [])) [(.t 7)]⟩,
    ⟨(some 6), none, .move (.t 8)⟩,
    ⟨(some 9), none, .extract 0 (.t 6)⟩,
    ⟨(some 10), none, .extract 1 (.t 6)⟩,
    ⟨(some 2), none, .move (.t 9)⟩,
    ⟨(some 3), none, .move (.t 10)⟩])
  (.seq (.ops [⟨(some 11), none, .move (.t 0)⟩,
    ⟨(some 12), none, .nilCheck (.t 11)⟩,
    ⟨(some 13), none, .faddr 0 (.t 12)⟩,
    ⟨(some 14), none, .faddr 4 (.t 13)⟩,
    ⟨(some 15), none, .load none (.t 14)⟩,
    ⟨(some 16), none, .len (.t 15)⟩,
    ⟨(some 17), none, .move (.c (.sc (.int .i64 (0))))⟩])
  (.block 0 (.loop (.seq (.ops [⟨(some 18), none, .bin .lss (.t 17) (.t 16)⟩])
    (.seq (.cond (.t 18)
     (.skip)
     (.exit 0))
    (.seq (.block 1 (.seq (.ops [⟨(some 19), none, .move (.t 17)⟩,
       ⟨(some 20), none, .iaddrS 7 (.t 15) (.t 17)⟩,
       ⟨(some 21), none, .load (some 7) (.t 20)⟩,
       ⟨(some 5), none, .alloc [(.sc (.int .i64 (0))), (.sc (.int .i64 (0))), (.sc (.int .i64 (0))), (.sc (.int .i64 (0))), (.sc (.int .i64 (0))), (.sc (.int .i64 (0))), (.sc (.int .i64 (0)))]⟩,
       ⟨(some 4), none, .move (.t 19)⟩,
       ⟨none, none, .store 7 (.t 5) (.t 21)⟩])
     (.draw [⟨false, [0], ⟨(some 22), none, .move (.t 0)⟩⟩,
       ⟨false, [3], ⟨(some 23), none, .move (.t 3)⟩⟩,
       ⟨false, [4], ⟨(some 24), none, .move (.t 4)⟩⟩,
       ⟨false, [23, 24], ⟨(some 25), none, .iaddrS 1 (.t 23) (.t 24)⟩⟩,
       ⟨false, [25], ⟨(some 26), none, .load none (.t 25)⟩⟩,
       ⟨false, [5], ⟨(some 27), none, .faddr 0 (.t 5)⟩⟩,
       ⟨false, [27], ⟨(some 28), none, .load (some 2) (.t 27)⟩⟩]
       [⟨(some 29), none, .call (.c (.fn (.func 36) [] [])) [(.t 22), (.t 26), (.t 28)]⟩])))
    (.ops [⟨(some 30), none, .bin .add (.t 17) (.c (.sc (.int .i64 (1))))⟩,
      ⟨(some 17), none, .move (.t 30)⟩]))))))),
  []⟩
theorem ok29 : EntryOk Tryz.prog 29 af29 := ⟨Tryz.f29, _, Tryz.func29, by decide, rfl, by kernel_rfl, by kernel_rfl, rfl⟩
/-- (*hemiola/check.checker).tempi -/
noncomputable def af33 : AF := ⟨4, .ops [⟨(some 2), none, .move (.t 0)⟩,
    ⟨(some 3), none, .call (.c (.fn (.func 43) [] [])) [(.t 2), (.c (.fn (.func 80) [] []))]⟩],
  []⟩
theorem ok33 : EntryOk Tryz.prog 33 af33 := ⟨Tryz.f33, _, Tryz.func33, by decide, rfl, by kernel_rfl, by kernel_rfl, rfl⟩
/-- hemiola/check.plain -/
noncomputable def af37 : AF := ⟨14, .seq (.ops [⟨(some 2), none, .move (.c (.sc (.bool false)))⟩])
  (.seq (.ops [⟨(some 3), none, .move (.c (.fn (.func 86) [] []))⟩])
  (.seq (.ops [⟨(some 4), none, .move (.t 0)⟩,
    ⟨(some 5), none, .lenStr (.t 4)⟩,
    ⟨(some 6), none, .bin .leq (.t 5) (.c (.sc (.int .i64 (256))))⟩,
    ⟨(some 7), none, .move (.t 6)⟩,
    ⟨(some 8), (some (7, true)), .move (.t 0)⟩,
    ⟨(some 9), (some (7, true)), .strBytes (.t 8)⟩,
    ⟨(some 10), (some (7, true)), .move (.t 3)⟩,
    ⟨(some 11), (some (7, true)), .call (.c (.fn (.func 87) [] [])) [(.t 9), (.t 10)]⟩,
    ⟨(some 12), (some (7, true)), .un .not (.t 11)⟩,
    ⟨(some 13), none, .pick (.t 7) (.t 12) (.c (.sc (.bool false)))⟩,
    ⟨(some 2), none, .move (.t 13)⟩])
  (.ret))),
  [.t 2]⟩
theorem ok37 : EntryOk Tryz.prog 37 af37 := ⟨Tryz.f37, _, Tryz.func37, by decide, rfl, by kernel_rfl, by kernel_rfl, rfl⟩
/-- hemiola/score.Last -/
noncomputable def af41 : AF := ⟨21, .seq (.ops [⟨(some 2), none, .box (.t 0)⟩,
    ⟨(some 4), none, .move (.c (.sc (.int .i64 (0))))⟩])
  (.seq (.seq (.ops [⟨(some 7), none, .faddr 5 (.t 2)⟩,
    ⟨(some 8), none, .load none (.t 7)⟩,
    ⟨(some 9), none, .len (.t 8)⟩,
    ⟨(some 10), none, .move (.c (.sc (.int .i64 (0))))⟩])
  (.block 0 (.loop (.seq (.ops [⟨(some 11), none, .bin .lss (.t 10) (.t 9)⟩])
    (.seq (.cond (.t 11)
     (.skip)
     (.exit 0))
    (.seq (.block 1 (.seq (.ops [⟨(some 12), none, .iaddrS 2 (.t 8) (.t 10)⟩,
       ⟨(some 13), none, .load (some 2) (.t 12)⟩,
       ⟨(some 6), none, .alloc [(.sc (.int .i64 (0))), (.sc (.int .i64 (0)))]⟩,
       ⟨none, none, .store 2 (.t 6) (.t 13)⟩])
     (.seq (.ops [⟨(some 14), none, .faddr 0 (.t 6)⟩,
       ⟨(some 15), none, .load none (.t 14)⟩,
       ⟨(some 16), none, .move (.t 1)⟩,
       ⟨(some 17), none, .bin .eql (.t 15) (.t 16)⟩])
     (.cond (.t 17)
      (.seq (.ops [⟨(some 18), none, .faddr 1 (.t 6)⟩,
        ⟨(some 19), none, .load none (.t 18)⟩,
        ⟨(some 4), none, .move (.t 19)⟩])
      (.ret))
      (.skip)))))
    (.ops [⟨(some 20), none, .bin .add (.t 10) (.c (.sc (.int .i64 (1))))⟩,
      ⟨(some 10), none, .move (.t 20)⟩])))))))
  (.seq (.ops [⟨(some 4), none, .move (.c (.sc (.int .i64 (0))))⟩])
  (.ret))),
  [.t 4]⟩
theorem ok41 : EntryOk Tryz.prog 41 af41 := ⟨Tryz.f41, _, Tryz.func41, by decide, rfl, by kernel_rfl, by kernel_rfl, rfl⟩
/-- hemiola/clef.Check -/
noncomputable def af45 : AF := ⟨11, .seq (.ops [⟨(some 2), none, .move (.c (.sc (.int .i64 (0))))⟩])
  (.seq (.ops [⟨(some 6), none, .move (.t 0)⟩,
    ⟨(some 7), none, .call (.c (.fn (.func 89) [] [])) [(.t 6)]⟩,
    ⟨(some 5), none, .move (.t 7)⟩,
    ⟨(some 8), none, .extract 0 (.t 5)⟩,
    ⟨(some 9), none, .extract 1 (.t 5)⟩,
    ⟨(some 3), none, .alloc [(.sc (.string ⟨#[]⟩)), (.sc (.int .u8 (0))), (.sc (.int .i64 (0))), (.sc (.int .i64 (0))), (.sc (.int .i64 (0))), (.sc (.int .i64 (0))), (.sc (.int .i64 (0)))]⟩,
    ⟨none, none, .store 7 (.t 3) (.t 8)⟩,
    ⟨(some 4), none, .move (.t 9)⟩])
  (.seq (.ops [⟨(some 10), none, .move (.t 4)⟩,
    ⟨(some 2), none, .move (.t 10)⟩])
  (.ret))),
  [.t 2]⟩
theorem ok45 : EntryOk Tryz.prog 45 af45 := ⟨Tryz.f45, _, Tryz.func45, by decide, rfl, by kernel_rfl, by kernel_rfl, rfl⟩
/-- (*hemiola/check.checker).filled -/
noncomputable def af50 : AF := ⟨7, .seq (.ops [⟨(some 3), none, .box (.t 1)⟩])
  (.ops [⟨(some 4), none, .move (.t 0)⟩,
    ⟨(some 5), none, .mkFn (.func 92) [] [(.t 3)]⟩,
    ⟨(some 6), none, .call (.c (.fn (.func 43) [] [])) [(.t 4), (.t 5)]⟩]),
  []⟩
theorem ok50 : EntryOk Tryz.prog 50 af50 := ⟨Tryz.f50, _, Tryz.func50, by decide, rfl, by kernel_rfl, by kernel_rfl, rfl⟩
/-- (*hemiola/check.checker).events$1 -/
noncomputable def af54 : AF := ⟨8, .seq (.ops [⟨(some 2), none, .box (.t 0)⟩,
    ⟨(some 3), none, .box (.t 1)⟩,
    ⟨(some 4), none, .move (.c (.sc (.bool false)))⟩])
  (.seq (.ops [⟨(some 5), none, .load (some 13) (.t 3)⟩,
    ⟨(some 6), none, .call (.c (.fn (.func 55) [] [])) [(.t 5)]⟩,
    ⟨(some 7), none, .bin .neq (.t 6) (.c (.sc (.int .i64 (0))))⟩,
    ⟨(some 4), none, .move (.t 7)⟩])
  (.ret)),
  [.t 4]⟩
theorem ok54 : EntryOk Tryz.prog 54 af54 := ⟨Tryz.f54, _, Tryz.func54, by decide, rfl, by kernel_rfl, by kernel_rfl, rfl⟩
/-- slices.ContainsFunc[[]hemiola/api.Head,hemiola/api.Head] -/
noncomputable def af60 : AF := ⟨9, .seq (.ops [⟨(some 4), none, .move (.c (.sc (.bool false)))⟩])
  (.seq (.ops [⟨(some 5), none, .move (.t 0)⟩,
    ⟨(some 6), none, .move (.t 1)⟩,
    ⟨(some 7), none, .call (.c (.fn (.func 111) [] [])) [(.t 5), (.t 6)]⟩,
    ⟨(some 8), none, .bin .geq (.t 7) (.c (.sc (.int .i64 (0))))⟩,
    ⟨(some 4), none, .move (.t 8)⟩])
  (.ret)),
  [.t 4]⟩
theorem ok60 : EntryOk Tryz.prog 60 af60 := ⟨Tryz.f60, _, Tryz.func60, by decide, rfl, by kernel_rfl, by kernel_rfl, rfl⟩
/-- hemiola/score.Next -/
noncomputable def af66 : AF := ⟨54, .seq (.ops [⟨(some 2), none, .box (.t 0)⟩,
    ⟨(some 3), none, .box (.t 1)⟩,
    ⟨(some 4), none, .alloc [(.sc (.int .i64 (0))), (.sc (.int .i64 (0))), (.sc (.int .i64 (0))), (.sc (.int .i64 (0))), (.sc (.int .i64 (0))), (.sc (.int .i64 (0))), (.sc (.int .i64 (0)))]⟩,
    ⟨(some 5), none, .move (.c (.sc (.bool false)))⟩])
  (.seq (.seq (.ops [⟨(some 6), none, .load (some 6) (.t 2)⟩,
    ⟨(some 7), none, .load (some 7) (.t 3)⟩,
    ⟨(some 8), none, .call (.c (.fn (.func 114) [] [])) [(.t 6), (.t 7)]⟩,
    ⟨(some 9), none, .bin .neq (.t 8) (.c (.sc (.int .i64 (0))))⟩])
  (.cond (.t 9)
   (.seq (.ops [⟨(some 10), none, .build [(.sc (.int .i64 (0))), (.sc (.int .i64 (0))), (.sc (.int .i64 (0))), (.sc (.int .i64 (0))), (.sc (.int .i64 (0))), (.sc (.int .i64 (0))), (.sc (.int .i64 (0)))] []⟩,
     ⟨none, none, .store 7 (.t 4) (.t 10)⟩,
     ⟨(some 5), none, .move (.c (.sc (.bool false)))⟩])
   (.ret))
   (.skip)))
  (.seq (.seq (.draw [⟨false, [3], ⟨(some 11), none, .faddr 5 (.t 3)⟩⟩,
    ⟨false, [11], ⟨(some 12), none, .load none (.t 11)⟩⟩,
    ⟨false, [12], ⟨(some 13), none, .bin .add (.t 12) (.c (.sc (.int .i64 (1))))⟩⟩,
    ⟨false, [2], ⟨(some 14), none, .load (some 6) (.t 2)⟩⟩,
    ⟨false, [3], ⟨(some 15), none, .faddr 3 (.t 3)⟩⟩,
    ⟨false, [15], ⟨(some 16), none, .load none (.t 15)⟩⟩,
    ⟨false, [3], ⟨(some 17), none, .faddr 2 (.t 3)⟩⟩,
    ⟨false, [17], ⟨(some 18), none, .load none (.t 17)⟩⟩,
    ⟨false, [3], ⟨(some 19), none, .faddr 4 (.t 3)⟩⟩,
    ⟨false, [19], ⟨(some 20), none, .load none (.t 19)⟩⟩,
    ⟨false, [14, 16, 18, 20], ⟨(some 21), none, .call (.c (.fn (.func 115) [] [])) [(.t 14), (.t 16), (.t 18), (.t 20)]⟩⟩,
    ⟨false, [21], ⟨(some 22), none, .len (.t 21)⟩⟩]
    [⟨(some 23), none, .bin .lss (.t 13) (.t 22)⟩])
  (.cond (.t 23)
   (.seq (.ops [⟨(some 24), none, .faddr 3 (.t 3)⟩,
     ⟨(some 25), none, .load none (.t 24)⟩,
     ⟨(some 26), none, .faddr 2 (.t 3)⟩,
     ⟨(some 27), none, .load none (.t 26)⟩,
     ⟨(some 28), none, .faddr 4 (.t 3)⟩,
     ⟨(some 29), none, .load none (.t 28)⟩,
     ⟨(some 30), none, .faddr 5 (.t 3)⟩,
     ⟨(some 31), none, .load none (.t 30)⟩,
     ⟨(some 32), none, .bin .add (.t 31) (.c (.sc (.int .i64 (1))))⟩,
     ⟨(some 33), none, .call (.c (.fn (.func 116) [] [])) [(.t 25), (.t 27), (.t 29), (.t 32)]⟩,
     ⟨none, none, .store 7 (.t 4) (.t 33)⟩,
     ⟨(some 5), none, .move (.c (.sc (.bool true)))⟩])
   (.ret))
   (.skip)))
  (.seq (.seq (.ops [⟨(some 34), none, .load (some 6) (.t 2)⟩,
    ⟨(some 35), none, .faddr 3 (.t 3)⟩,
    ⟨(some 36), none, .load none (.t 35)⟩,
    ⟨(some 37), none, .bin .add (.t 36) (.c (.sc (.int .i64 (1))))⟩,
    ⟨(some 38), none, .faddr 2 (.t 3)⟩,
    ⟨(some 39), none, .load none (.t 38)⟩,
    ⟨(some 40), none, .faddr 4 (.t 3)⟩,
    ⟨(some 41), none, .load none (.t 40)⟩,
    ⟨(some 42), none, .call (.c (.fn (.func 115) [] [])) [(.t 34), (.t 37), (.t 39), (.t 41)]⟩,
    ⟨(some 43), none, .len (.t 42)⟩,
    ⟨(some 44), none, .bin .gtr (.t 43) (.c (.sc (.int .i64 (0))))⟩])
  (.cond (.t 44)
   (.seq (.ops [⟨(some 45), none, .faddr 3 (.t 3)⟩,
     ⟨(some 46), none, .load none (.t 45)⟩,
     ⟨(some 47), none, .bin .add (.t 46) (.c (.sc (.int .i64 (1))))⟩,
     ⟨(some 48), none, .faddr 2 (.t 3)⟩,
     ⟨(some 49), none, .load none (.t 48)⟩,
     ⟨(some 50), none, .faddr 4 (.t 3)⟩,
     ⟨(some 51), none, .load none (.t 50)⟩,
     ⟨(some 52), none, .call (.c (.fn (.func 116) [] [])) [(.t 47), (.t 49), (.t 51), (.c (.sc (.int .i64 (0))))]⟩,
     ⟨none, none, .store 7 (.t 4) (.t 52)⟩,
     ⟨(some 5), none, .move (.c (.sc (.bool true)))⟩])
   (.ret))
   (.skip)))
  (.seq (.ops [⟨(some 53), none, .build [(.sc (.int .i64 (0))), (.sc (.int .i64 (0))), (.sc (.int .i64 (0))), (.sc (.int .i64 (0))), (.sc (.int .i64 (0))), (.sc (.int .i64 (0))), (.sc (.int .i64 (0)))] []⟩,
    ⟨none, none, .store 7 (.t 4) (.t 53)⟩,
    ⟨(some 5), none, .move (.c (.sc (.bool false)))⟩])
  (.ret))))),
  [.c 4 (some 7), .t 5]⟩
theorem ok66 : EntryOk Tryz.prog 66 af66 := ⟨Tryz.f66, _, Tryz.func66, by decide, rfl, by kernel_rfl, by kernel_rfl, rfl⟩
/-- (*hemiola/check.checker).repeats$1 -/
noncomputable def af73 : AF := ⟨20, .seq (.ops [⟨(some 3), none, .box (.t 1)⟩,
    ⟨(some 4), none, .move (.c (.sc (.bool false)))⟩])
  (.seq (.ops [⟨(some 5), none, .faddr 13 (.t 3)⟩,
    ⟨(some 6), none, .load none (.t 5)⟩,
    ⟨(some 7), none, .bin .neq (.t 6) (.c (.sc (.int .i64 (0))))⟩,
    ⟨(some 8), none, .move (.t 7)⟩,
    ⟨(some 9), (some (8, true)), .faddr 13 (.t 3)⟩,
    ⟨(some 10), (some (8, true)), .load none (.t 9)⟩,
    ⟨(some 11), (some (8, true)), .call (.c (.fn (.func 14) [] [])) [(.t 10), (.c (.sc (.int .i64 (2)))), (.c (.sc (.int .i64 (8))))]⟩,
    ⟨(some 12), (some (8, true)), .un .not (.t 11)⟩,
    ⟨(some 13), none, .pick (.t 8) (.t 12) (.c (.sc (.bool false)))⟩,
    ⟨(some 14), none, .move (.t 13)⟩,
    ⟨(some 15), (some (14, false)), .faddr 14 (.t 3)⟩,
    ⟨(some 16), (some (14, false)), .load none (.t 15)⟩,
    ⟨(some 17), (some (14, false)), .call (.c (.fn (.func 14) [] [])) [(.t 16), (.c (.sc (.int .i64 (0)))), (.c (.sc (.int .i64 (255))))]⟩,
    ⟨(some 18), (some (14, false)), .un .not (.t 17)⟩,
    ⟨(some 19), none, .pick (.t 14) (.c (.sc (.bool true))) (.t 18)⟩,
    ⟨(some 4), none, .move (.t 19)⟩])
  (.ret)),
  [.t 4]⟩
theorem ok73 : EntryOk Tryz.prog 73 af73 := ⟨Tryz.f73, _, Tryz.func73, by decide, rfl, by kernel_rfl, by kernel_rfl, rfl⟩
/-- (*hemiola/check.checker).placed -/
noncomputable def af79 : AF := ⟨34, .seq (.ops [⟨(some 3), none, .box (.t 0)⟩,
    ⟨(some 5), none, .box (.t 2)⟩,
    ⟨(some 6), none, .move (.c (.sc (.bool false)))⟩])
  (.seq (.ops [⟨(some 8), none, .mkFn (.func 130) [] [(.t 3), (.t 5)]⟩,
    ⟨(some 7), none, .move (.t 8)⟩])
  (.seq (.seq (.ops [⟨(some 9), none, .move (.t 1)⟩,
    ⟨(some 10), none, .bin .geq (.t 9) (.c (.sc (.int .i64 (4))))⟩,
    ⟨(some 11), none, .move (.t 10)⟩,
    ⟨(some 12), (some (11, true)), .move (.t 7)⟩,
    ⟨(some 13), (some (11, true)), .call (.t 12) [(.c (.sc (.int .i64 (1))))]⟩,
    ⟨(some 14), (some (11, true)), .un .not (.t 13)⟩,
    ⟨(some 15), none, .pick (.t 11) (.t 14) (.c (.sc (.bool false)))⟩])
  (.cond (.t 15)
   (.seq (.ops [⟨(some 6), none, .move (.c (.sc (.bool false)))⟩])
   (.ret))
   (.skip)))
  (.seq (.seq (.ops [⟨(some 16), none, .move (.t 1)⟩])
  (.block 0 (.seq (.seq (.ops [⟨(some 18), none, .bin .eql (.t 16) (.c (.sc (.int .i64 (2))))⟩,
     ⟨(some 17), none, .move (.t 18)⟩])
   (.cond (.t 17)
    (.skip)
    (.ops [⟨(some 19), none, .bin .eql (.t 16) (.c (.sc (.int .i64 (5))))⟩,
      ⟨(some 17), none, .move (.t 19)⟩])))
   (.cond (.t 17)
    (.seq (.ops [⟨(some 20), none, .move (.t 7)⟩,
      ⟨(some 21), none, .call (.t 20) [(.c (.sc (.int .i64 (4))))]⟩,
      ⟨(some 6), none, .move (.t 21)⟩])
    (.ret))
    (.seq (.seq (.ops [⟨(some 23), none, .bin .eql (.t 16) (.c (.sc (.int .i64 (3))))⟩,
      ⟨(some 22), none, .move (.t 23)⟩])
    (.cond (.t 22)
     (.skip)
     (.ops [⟨(some 24), none, .bin .eql (.t 16) (.c (.sc (.int .i64 (6))))⟩,
       ⟨(some 22), none, .move (.t 24)⟩])))
    (.cond (.t 22)
     (.seq (.draw [⟨true, [7], ⟨(some 25), none, .move (.t 7)⟩⟩,
       ⟨true, [25], ⟨(some 26), none, .call (.t 25) [(.c (.sc (.int .i64 (8))))]⟩⟩,
       ⟨true, [26], ⟨(some 27), none, .move (.t 26)⟩⟩,
       ⟨false, [3, 27], ⟨(some 28), (some (27, true)), .load none (.t 3)⟩⟩,
       ⟨false, [28, 27], ⟨(some 29), (some (27, true)), .call (.c (.fn (.func 131) [] [])) [(.t 28), (.c (.sc (.int .i64 (2))))]⟩⟩,
       ⟨false, [3, 27], ⟨(some 30), (some (27, true)), .load none (.t 3)⟩⟩]
       [⟨(some 31), (some (27, true)), .call (.c (.fn (.func 131) [] [])) [(.t 30), (.c (.sc (.int .i64 (8))))]⟩,
       ⟨(some 32), (some (27, true)), .bin .gtr (.t 29) (.t 31)⟩,
       ⟨(some 33), none, .pick (.t 27) (.t 32) (.c (.sc (.bool false)))⟩,
       ⟨(some 6), none, .move (.t 33)⟩])
     (.ret))
     (.skip)))))))
  (.seq (.ops [⟨(some 6), none, .move (.c (.sc (.bool true)))⟩])
  (.ret))))),
  [.t 6]⟩
theorem ok79 : EntryOk Tryz.prog 79 af79 := ⟨Tryz.f79, _, Tryz.func79, by decide, rfl, by kernel_rfl, by kernel_rfl, rfl⟩
/-- slices.ContainsFunc[[]byte,byte] -/
noncomputable def af87 : AF := ⟨9, .seq (.ops [⟨(some 4), none, .move (.c (.sc (.bool false)))⟩])
  (.seq (.ops [⟨(some 5), none, .move (.t 0)⟩,
    ⟨(some 6), none, .move (.t 1)⟩,
    ⟨(some 7), none, .call (.c (.fn (.func 137) [] [])) [(.t 5), (.t 6)]⟩,
    ⟨(some 8), none, .bin .geq (.t 7) (.c (.sc (.int .i64 (0))))⟩,
    ⟨(some 4), none, .move (.t 8)⟩])
  (.ret)),
  [.t 4]⟩
theorem ok87 : EntryOk Tryz.prog 87 af87 := ⟨Tryz.f87, _, Tryz.func87, by decide, rfl, by kernel_rfl, by kernel_rfl, rfl⟩
/-- (*hemiola/check.checker).filled$1 -/
noncomputable def af92 : AF := ⟨20, .seq (.ops [⟨(some 4), none, .box (.t 1)⟩,
    ⟨(some 5), none, .move (.c (.sc (.bool false)))⟩])
  (.seq (.ops [⟨(some 10), none, .load (some 22) (.t 4)⟩,
    ⟨(some 11), none, .call (.c (.fn (.func 47) [] [])) [(.t 10)]⟩,
    ⟨(some 9), none, .move (.t 11)⟩,
    ⟨(some 12), none, .extract 0 (.t 9)⟩,
    ⟨(some 13), none, .extract 1 (.t 9)⟩,
    ⟨(some 6), none, .alloc [(.sc (.int .i64 (0)))]⟩,
    ⟨none, none, .store 1 (.t 6) (.t 12)⟩,
    ⟨(some 7), none, .move (.t 13)⟩])
  (.seq (.seq (.ops [⟨(some 14), none, .move (.t 7)⟩,
    ⟨(some 15), none, .bin .neq (.t 14) (.c (.sc (.int .i64 (0))))⟩])
  (.cond (.t 15)
   (.seq (.ops [⟨(some 5), none, .move (.c (.sc (.bool false)))⟩])
   (.ret))
   (.skip)))
  (.seq (.ops [⟨(some 8), none, .alloc [(.sc .nilFunc)]⟩,
    ⟨none, none, .store 1 (.t 8) (.c (.fn (.func 93) [] []))⟩])
  (.seq (.ops [⟨(some 16), none, .faddr 21 (.t 4)⟩,
    ⟨(some 17), none, .load none (.t 16)⟩,
    ⟨(some 18), none, .mkFn (.func 95) [] [(.t 8), (.t 2), (.t 6)]⟩,
    ⟨(some 19), none, .call (.c (.fn (.func 94) [] [])) [(.t 17), (.t 18)]⟩,
    ⟨(some 5), none, .move (.t 19)⟩])
  (.ret))))),
  [.t 5]⟩
theorem ok92 : EntryOk Tryz.prog 92 af92 := ⟨Tryz.f92, _, Tryz.func92, by decide, rfl, by kernel_rfl, by kernel_rfl, rfl⟩
/-- slices.ContainsFunc[[]hemiola/api.Voice,hemiola/api.Voice] -/
noncomputable def af96 : AF := ⟨9, .seq (.ops [⟨(some 4), none, .move (.c (.sc (.bool false)))⟩])
  (.seq (.ops [⟨(some 5), none, .move (.t 0)⟩,
    ⟨(some 6), none, .move (.t 1)⟩,
    ⟨(some 7), none, .call (.c (.fn (.func 143) [] [])) [(.t 5), (.t 6)]⟩,
    ⟨(some 8), none, .bin .geq (.t 7) (.c (.sc (.int .i64 (0))))⟩,
    ⟨(some 4), none, .move (.t 8)⟩])
  (.ret)),
  [.t 4]⟩
theorem ok96 : EntryOk Tryz.prog 96 af96 := ⟨Tryz.f96, _, Tryz.func96, by decide, rfl, by kernel_rfl, by kernel_rfl, rfl⟩
/-- hemiola/event.first -/
noncomputable def af100 : AF := ⟨15, .seq (.ops [⟨(some 2), none, .move (.c (.sc (.int .i64 (0))))⟩])
  (.seq (.seq (.ops [⟨(some 5), none, .move (.t 0)⟩,
    ⟨(some 6), none, .len (.t 5)⟩,
    ⟨(some 7), none, .move (.c (.sc (.int .i64 (0))))⟩])
  (.block 0 (.loop (.seq (.ops [⟨(some 8), none, .bin .lss (.t 7) (.t 6)⟩])
    (.seq (.cond (.t 8)
     (.skip)
     (.exit 0))
    (.seq (.block 1 (.seq (.ops [⟨(some 9), none, .iaddrS 1 (.t 5) (.t 7)⟩,
       ⟨(some 10), none, .load none (.t 9)⟩,
       ⟨(some 4), none, .move (.t 10)⟩])
     (.seq (.ops [⟨(some 11), none, .move (.t 4)⟩,
       ⟨(some 12), none, .bin .neq (.t 11) (.c (.sc (.int .i64 (0))))⟩])
     (.cond (.t 12)
      (.seq (.ops [⟨(some 13), none, .move (.t 4)⟩,
        ⟨(some 2), none, .move (.t 13)⟩])
      (.ret))
      (.skip)))))
    (.ops [⟨(some 14), none, .bin .add (.t 7) (.c (.sc (.int .i64 (1))))⟩,
      ⟨(some 7), none, .move (.t 14)⟩])))))))
  (.seq (.ops [⟨(some 2), none, .move (.c (.sc (.int .i64 (0))))⟩])
  (.ret))),
  [.t 2]⟩
theorem ok100 : EntryOk Tryz.prog 100 af100 := ⟨Tryz.f100, _, Tryz.func100, by decide, rfl, by kernel_rfl, by kernel_rfl, rfl⟩
/-- hemiola/event.strip -/
noncomputable def af104 : AF := ⟨35, .seq (.ops [⟨(some 1), none, .box (.t 0)⟩,
    ⟨(some 2), none, .alloc [(.sc (.int .i64 (0))), (.sc (.int .i64 (0))), (.sc (.int .i64 (0))), (.sc (.int .i64 (0))), (.sc (.int .i64 (0))), (.sl true .full 0 []), (.sl true .full 0 []), (.sc (.int .i64 (0))), (.sc (.int .i64 (0))), (.sc (.int .i64 (0))), (.sl true .full 0 []), (.sc (.int .i64 (0))), (.sc (.int .i64 (0)))]⟩])
  (.seq (.seq (.ops [⟨(some 4), none, .faddr 2 (.t 1)⟩,
    ⟨(some 5), none, .load none (.t 4)⟩,
    ⟨(some 6), none, .bin .eql (.t 5) (.c (.sc (.int .i64 (1))))⟩,
    ⟨(some 7), none, .move (.t 6)⟩,
    ⟨(some 8), (some (7, false)), .faddr 2 (.t 1)⟩,
    ⟨(some 9), (some (7, false)), .load none (.t 8)⟩,
    ⟨(some 10), (some (7, false)), .call (.c (.fn (.func 102) [] [])) [(.t 9)]⟩,
    ⟨(some 11), (some (7, false)), .un .not (.t 10)⟩,
    ⟨(some 12), none, .pick (.t 7) (.c (.sc (.bool true))) (.t 11)⟩])
  (.cond (.t 12)
   (.seq (.ops [⟨(some 13), none, .load (some 13) (.t 1)⟩,
     ⟨none, none, .store 13 (.t 2) (.t 13)⟩])
   (.ret))
   (.skip)))
  (.seq (.ops [⟨(some 14), none, .faddr 0 (.t 1)⟩,
    ⟨(some 15), none, .load (some 2) (.t 14)⟩,
    ⟨(some 16), none, .faddr 2 (.t 1)⟩,
    ⟨(some 17), none, .load none (.t 16)⟩,
    ⟨(some 18), none, .faddr 9 (.t 1)⟩,
    ⟨(some 19), none, .load none (.t 18)⟩,
    ⟨(some 20), none, .build [(.sc (.int .i64 (0))), (.sc (.int .i64 (0))), (.sc (.int .i64 (0))), (.sc (.int .i64 (0))), (.sc (.int .i64 (0))), (.sl true .full 0 []), (.sl true .full 0 []), (.sc (.int .i64 (0))), (.sc (.int .i64 (0))), (.sc (.int .i64 (0))), (.sl true .full 0 []), (.sc (.int .i64 (0))), (.sc (.int .i64 (0)))] [((0, 2), (.t 15)), ((2, 1), (.t 17)), ((9, 1), (.t 19))]⟩,
    ⟨(some 3), none, .alloc [(.sc (.int .i64 (0))), (.sc (.int .i64 (0))), (.sc (.int .i64 (0))), (.sc (.int .i64 (0))), (.sc (.int .i64 (0))), (.sl true .full 0 []), (.sl true .full 0 []), (.sc (.int .i64 (0))), (.sc (.int .i64 (0))), (.sc (.int .i64 (0))), (.sl true .full 0 []), (.sc (.int .i64 (0))), (.sc (.int .i64 (0)))]⟩,
    ⟨none, none, .store 13 (.t 3) (.t 20)⟩])
  (.seq (.seq (.ops [⟨(some 21), none, .faddr 2 (.t 1)⟩,
    ⟨(some 22), none, .load none (.t 21)⟩,
    ⟨(some 23), none, .bin .neq (.t 22) (.c (.sc (.int .i64 (3))))⟩])
  (.cond (.t 23)
   (.ops [⟨(some 24), none, .faddr 3 (.t 1)⟩,
     ⟨(some 25), none, .load (some 2) (.t 24)⟩,
     ⟨(some 26), none, .faddr 3 (.t 3)⟩,
     ⟨none, none, .store 2 (.t 26) (.t 25)⟩])
   (.skip)))
  (.seq (.seq (.ops [⟨(some 27), none, .faddr 2 (.t 1)⟩,
    ⟨(some 28), none, .load none (.t 27)⟩,
    ⟨(some 29), none, .bin .neq (.t 28) (.c (.sc (.int .i64 (4))))⟩])
  (.cond (.t 29)
   (.ops [⟨(some 30), none, .faddr 7 (.t 1)⟩,
     ⟨(some 31), none, .load none (.t 30)⟩,
     ⟨(some 32), none, .call (.c (.fn (.func 149) [] [])) [(.t 31)]⟩,
     ⟨(some 33), none, .faddr 7 (.t 3)⟩,
     ⟨none, none, .store 1 (.t 33) (.t 32)⟩])
   (.skip)))
  (.seq (.ops [⟨(some 34), none, .load (some 13) (.t 3)⟩,
    ⟨none, none, .store 13 (.t 2) (.t 34)⟩])
  (.ret)))))),
  [.c 2 (some 13)]⟩
theorem ok104 : EntryOk Tryz.prog 104 af104 := ⟨Tryz.f104, _, Tryz.func104, by decide, rfl, by kernel_rfl, by kernel_rfl, rfl⟩
/-- hemiola/score.events -/
noncomputable def af115 : AF := ⟨66, .seq (.ops [⟨(some 4), none, .box (.t 0)⟩,
    ⟨(some 8), none, .move (.c (.sl true .full 0 []))⟩])
  (.seq (.seq (.ops [⟨(some 9), none, .move (.t 1)⟩,
    ⟨(some 10), none, .bin .lss (.t 9) (.c (.sc (.int .i64 (0))))⟩,
    ⟨(some 11), none, .move (.t 10)⟩,
    ⟨(some 12), (some (11, false)), .move (.t 1)⟩,
    ⟨(some 13), (some (11, false)), .faddr 3 (.t 4)⟩,
    ⟨(some 14), (some (11, false)), .load none (.t 13)⟩,
    ⟨(some 15), (some (11, false)), .len (.t 14)⟩,
    ⟨(some 16), (some (11, false)), .bin .geq (.t 12) (.t 15)⟩,
    ⟨(some 17), none, .pick (.t 11) (.c (.sc (.bool true))) (.t 16)⟩,
    ⟨(some 18), none, .move (.t 17)⟩,
    ⟨(some 19), (some (18, false)), .move (.t 2)⟩,
    ⟨(some 20), (some (18, false)), .bin .lss (.t 19) (.c (.sc (.int .i64 (0))))⟩,
    ⟨(some 21), none, .pick (.t 18) (.c (.sc (.bool true))) (.t 20)⟩,
    ⟨(some 22), none, .move (.t 21)⟩,
    ⟨(some 23), (some (22, false)), .move (.t 2)⟩,
    ⟨(some 24), (some (22, false)), .faddr 3 (.t 4)⟩,
    ⟨(some 25), (some (22, false)), .load none (.t 24)⟩,
    ⟨(some 26), (some (22, false)), .move (.t 1)⟩,
    ⟨(some 27), (some (22, false)), .iaddrS 22 (.t 25) (.t 26)⟩,
    ⟨(some 28), (some (22, false)), .faddr 21 (.t 27)⟩,
    ⟨(some 29), (some (22, false)), .load none (.t 28)⟩,
    ⟨(some 30), (some (22, false)), .len (.t 29)⟩,
    ⟨(some 31), (some (22, false)), .bin .geq (.t 23) (.t 30)⟩,
    ⟨(some 32), none, .pick (.t 22) (.c (.sc (.bool true))) (.t 31)⟩,
    ⟨(some 33), none, .move (.t 32)⟩,
    ⟨(some 34), (some (33, false)), .move (.t 3)⟩,
    ⟨(some 35), (some (33, false)), .bin .lss (.t 34) (.c (.sc (.int .i64 (0))))⟩,
    ⟨(some 36), none, .pick (.t 33) (.c (.sc (.bool true))) (.t 35)⟩,
    ⟨(some 37), none, .move (.t 36)⟩,
    ⟨(some 38), (some (37, false)), .move (.t 3)⟩,
    ⟨(some 39), (some (37, false)), .faddr 3 (.t 4)⟩,
    ⟨(some 40), (some (37, false)), .load none (.t 39)⟩,
    ⟨(some 41), (some (37, false)), .move (.t 1)⟩,
    ⟨(some 42), (some (37, false)), .iaddrS 22 (.t 40) (.t 41)⟩,
    ⟨(some 43), (some (37, false)), .faddr 21 (.t 42)⟩,
    ⟨(some 44), (some (37, false)), .load none (.t 43)⟩,
    ⟨(some 45), (some (37, false)), .move (.t 2)⟩,
    ⟨(some 46), (some (37, false)), .iaddrS 2 (.t 44) (.t 45)⟩,
    ⟨(some 47), (some (37, false)), .faddr 1 (.t 46)⟩,
    ⟨(some 48), (some (37, false)), .load none (.t 47)⟩,
    ⟨(some 49), (some (37, false)), .len (.t 48)⟩,
    ⟨(some 50), (some (37, false)), .bin .geq (.t 38) (.t 49)⟩,
    ⟨(some 51), none, .pick (.t 37) (.c (.sc (.bool true))) (.t 50)⟩])
  (.cond (.t 51)
   (.seq (.ops [⟨(some 8), none, .move (.c (.sl true .full 0 []))⟩])
   (.ret))
   (.skip)))
  (.seq (.ops [⟨(some 52), none, .faddr 3 (.t 4)⟩,
    ⟨(some 53), none, .load none (.t 52)⟩,
    ⟨(some 54), none, .move (.t 1)⟩,
    ⟨(some 55), none, .iaddrS 22 (.t 53) (.t 54)⟩,
    ⟨(some 56), none, .faddr 21 (.t 55)⟩,
    ⟨(some 57), none, .load none (.t 56)⟩,
    ⟨(some 58), none, .move (.t 2)⟩,
    ⟨(some 59), none, .iaddrS 2 (.t 57) (.t 58)⟩,
    ⟨(some 60), none, .faddr 1 (.t 59)⟩,
    ⟨(some 61), none, .load none (.t 60)⟩,
    ⟨(some 62), none, .move (.t 3)⟩,
    ⟨(some 63), none, .iaddrS 2 (.t 61) (.t 62)⟩,
    ⟨(some 64), none, .faddr 0 (.t 63)⟩,
    ⟨(some 65), none, .load none (.t 64)⟩,
    ⟨(some 8), none, .move (.t 65)⟩])
  (.ret))),
  [.t 8]⟩
theorem ok115 : EntryOk Tryz.prog 115 af115 := ⟨Tryz.f115, _, Tryz.func115, by decide, rfl, by kernel_rfl, by kernel_rfl, rfl⟩
/-- hemiola/score.visit$1 -/
noncomputable def af138 : AF := ⟨183, .seq (.ops [⟨(some 3), none, .move (.c (.sc (.int .i64 (0))))⟩])
  (.seq (.seq (.ops [⟨(some 11), none, .load none (.t 1)⟩,
    ⟨(some 12), none, .nilCheck (.t 11)⟩,
    ⟨(some 13), none, .faddr 2 (.t 12)⟩,
    ⟨(some 14), none, .load none (.t 13)⟩,
    ⟨(some 15), none, .len (.t 14)⟩,
    ⟨(some 16), none, .move (.c (.sc (.int .i64 (0))))⟩])
  (.block 0 (.loop (.seq (.ops [⟨(some 17), none, .bin .lss (.t 16) (.t 15)⟩])
    (.seq (.cond (.t 17)
     (.skip)
     (.exit 0))
    (.seq (.block 1 (.seq (.ops [⟨(some 18), none, .move (.t 16)⟩,
       ⟨(some 4), none, .move (.t 18)⟩])
     (.seq (.seq (.ops [⟨(some 19), none, .move (.t 0)⟩,
       ⟨(some 20), none, .move (.t 4)⟩,
       ⟨(some 21), none, .build [(.sc (.int .i64 (0))), (.sc (.int .i64 (0))), (.sc (.int .i64 (0))), (.sc (.int .i64 (0))), (.sc (.int .i64 (0))), (.sc (.int .i64 (0))), (.sc (.int .i64 (0)))] [((0, 1), (.c (.sc (.int .i64 (1))))), ((1, 1), (.t 20))]⟩,
       ⟨(some 22), none, .load none (.t 1)⟩,
       ⟨(some 23), none, .nilCheck (.t 22)⟩,
       ⟨(some 24), none, .faddr 2 (.t 23)⟩,
       ⟨(some 25), none, .load none (.t 24)⟩,
       ⟨(some 26), none, .move (.t 4)⟩,
       ⟨(some 27), none, .iaddrS 6 (.t 25) (.t 26)⟩,
       ⟨(some 28), none, .faddr 0 (.t 27)⟩,
       ⟨(some 29), none, .call (.t 19) [(.t 21), (.t 28)]⟩,
       ⟨(some 30), none, .un .not (.t 29)⟩])
     (.cond (.t 30)
      (.ret)
      (.skip)))
     (.seq (.ops [⟨(some 31), none, .load none (.t 1)⟩,
       ⟨(some 32), none, .nilCheck (.t 31)⟩,
       ⟨(some 33), none, .faddr 2 (.t 32)⟩,
       ⟨(some 34), none, .load none (.t 33)⟩,
       ⟨(some 35), none, .move (.t 4)⟩,
       ⟨(some 36), none, .iaddrS 6 (.t 34) (.t 35)⟩,
       ⟨(some 37), none, .faddr 5 (.t 36)⟩,
       ⟨(some 38), none, .load none (.t 37)⟩,
       ⟨(some 39), none, .len (.t 38)⟩,
       ⟨(some 40), none, .move (.c (.sc (.int .i64 (0))))⟩])
     (.block 2 (.loop (.seq (.ops [⟨(some 41), none, .bin .lss (.t 40) (.t 39)⟩])
       (.seq (.cond (.t 41)
        (.skip)
        (.exit 2))
       (.seq (.block 3 (.seq (.ops [⟨(some 42), none, .move (.t 40)⟩,
          ⟨(some 5), none, .move (.t 42)⟩])
        (.seq (.seq (.ops [⟨(some 43), none, .move (.t 0)⟩,
          ⟨(some 44), none, .move (.t 3)⟩,
          ⟨(some 45), none, .build [(.sc (.int .i64 (0))), (.sc (.int .i64 (0))), (.sc (.int .i64 (0))), (.sc (.int .i64 (0))), (.sc (.int .i64 (0))), (.sc (.int .i64 (0))), (.sc (.int .i64 (0)))] [((0, 1), (.c (.sc (.int .i64 (2))))), ((2, 1), (.t 44))]⟩,
          ⟨(some 46), none, .load none (.t 1)⟩,
          ⟨(some 47), none, .nilCheck (.t 46)⟩,
          ⟨(some 48), none, .faddr 2 (.t 47)⟩,
          ⟨(some 49), none, .load none (.t 48)⟩,
          ⟨(some 50), none, .move (.t 4)⟩,
          ⟨(some 51), none, .iaddrS 6 (.t 49) (.t 50)⟩,
          ⟨(some 52), none, .faddr 5 (.t 51)⟩,
          ⟨(some 53), none, .load none (.t 52)⟩,
          ⟨(some 54), none, .move (.t 5)⟩,
          ⟨(some 55), none, .iaddrS 3 (.t 53) (.t 54)⟩,
          ⟨(some 56), none, .faddr 0 (.t 55)⟩,
          ⟨(some 57), none, .call (.t 43) [(.t 45), (.t 56)]⟩,
          ⟨(some 58), none, .un .not (.t 57)⟩])
        (.cond (.t 58)
         (.ret)
         (.skip)))
        (.ops [⟨(some 59), none, .move (.t 3)⟩,
          ⟨(some 60), none, .bin .add (.t 59) (.c (.sc (.int .i64 (1))))⟩,
          ⟨(some 3), none, .move (.t 60)⟩]))))
       (.ops [⟨(some 61), none, .bin .add (.t 40) (.c (.sc (.int .i64 (1))))⟩,
         ⟨(some 40), none, .move (.t 61)⟩]))))))))))
    (.ops [⟨(some 62), none, .bin .add (.t 16) (.c (.sc (.int .i64 (1))))⟩,
      ⟨(some 16), none, .move (.t 62)⟩])))))))
  (.seq (.seq (.ops [⟨(some 63), none, .load none (.t 1)⟩,
    ⟨(some 64), none, .nilCheck (.t 63)⟩,
    ⟨(some 65), none, .faddr 3 (.t 64)⟩,
    ⟨(some 66), none, .load none (.t 65)⟩,
    ⟨(some 67), none, .len (.t 66)⟩,
    ⟨(some 68), none, .move (.c (.sc (.int .i64 (0))))⟩])
  (.block 4 (.loop (.seq (.ops [⟨(some 69), none, .bin .lss (.t 68) (.t 67)⟩])
    (.seq (.cond (.t 69)
     (.skip)
     (.exit 4))
    (.seq (.block 5 (.seq (.ops [⟨(some 70), none, .move (.t 68)⟩,
       ⟨(some 6), none, .move (.t 70)⟩])
     (.seq (.seq (.ops [⟨(some 71), none, .move (.t 0)⟩,
       ⟨(some 72), none, .move (.t 6)⟩,
       ⟨(some 73), none, .build [(.sc (.int .i64 (0))), (.sc (.int .i64 (0))), (.sc (.int .i64 (0))), (.sc (.int .i64 (0))), (.sc (.int .i64 (0))), (.sc (.int .i64 (0))), (.sc (.int .i64 (0)))] [((0, 1), (.c (.sc (.int .i64 (3))))), ((3, 1), (.t 72))]⟩,
       ⟨(some 74), none, .load none (.t 1)⟩,
       ⟨(some 75), none, .nilCheck (.t 74)⟩,
       ⟨(some 76), none, .faddr 3 (.t 75)⟩,
       ⟨(some 77), none, .load none (.t 76)⟩,
       ⟨(some 78), none, .move (.t 6)⟩,
       ⟨(some 79), none, .iaddrS 22 (.t 77) (.t 78)⟩,
       ⟨(some 80), none, .faddr 0 (.t 79)⟩,
       ⟨(some 81), none, .call (.t 71) [(.t 73), (.t 80)]⟩,
       ⟨(some 82), none, .un .not (.t 81)⟩])
     (.cond (.t 82)
      (.ret)
      (.skip)))
     (.seq (.ops [⟨(some 83), none, .load none (.t 1)⟩,
       ⟨(some 84), none, .nilCheck (.t 83)⟩,
       ⟨(some 85), none, .faddr 3 (.t 84)⟩,
       ⟨(some 86), none, .load none (.t 85)⟩,
       ⟨(some 87), none, .move (.t 6)⟩,
       ⟨(some 88), none, .iaddrS 22 (.t 86) (.t 87)⟩,
       ⟨(some 89), none, .faddr 21 (.t 88)⟩,
       ⟨(some 90), none, .load none (.t 89)⟩,
       ⟨(some 91), none, .len (.t 90)⟩,
       ⟨(some 92), none, .move (.c (.sc (.int .i64 (0))))⟩])
     (.block 6 (.loop (.seq (.ops [⟨(some 93), none, .bin .lss (.t 92) (.t 91)⟩])
       (.seq (.cond (.t 93)
        (.skip)
        (.exit 6))
       (.seq (.block 7 (.seq (.ops [⟨(some 94), none, .move (.t 92)⟩,
          ⟨(some 7), none, .move (.t 94)⟩])
        (.seq (.ops [⟨(some 95), none, .load none (.t 1)⟩,
          ⟨(some 96), none, .nilCheck (.t 95)⟩,
          ⟨(some 97), none, .faddr 3 (.t 96)⟩,
          ⟨(some 98), none, .load none (.t 97)⟩,
          ⟨(some 99), none, .move (.t 6)⟩,
          ⟨(some 100), none, .iaddrS 22 (.t 98) (.t 99)⟩,
          ⟨(some 101), none, .faddr 21 (.t 100)⟩,
          ⟨(some 102), none, .load none (.t 101)⟩,
          ⟨(some 103), none, .move (.t 7)⟩,
          ⟨(some 104), none, .iaddrS 2 (.t 102) (.t 103)⟩,
          ⟨(some 105), none, .faddr 1 (.t 104)⟩,
          ⟨(some 106), none, .load none (.t 105)⟩,
          ⟨(some 107), none, .len (.t 106)⟩,
          ⟨(some 108), none, .move (.c (.sc (.int .i64 (0))))⟩])
        (.block 8 (.loop (.seq (.ops [⟨(some 109), none, .bin .lss (.t 108) (.t 107)⟩])
          (.seq (.cond (.t 109)
           (.skip)
           (.exit 8))
          (.seq (.block 9 (.seq (.ops [⟨(some 110), none, .move (.t 108)⟩,
             ⟨(some 8), none, .move (.t 110)⟩])
           (.seq (.ops [⟨(some 111), none, .load none (.t 1)⟩,
             ⟨(some 112), none, .nilCheck (.t 111)⟩,
             ⟨(some 113), none, .faddr 3 (.t 112)⟩,
             ⟨(some 114), none, .load none (.t 113)⟩,
             ⟨(some 115), none, .move (.t 6)⟩,
             ⟨(some 116), none, .iaddrS 22 (.t 114) (.t 115)⟩,
             ⟨(some 117), none, .faddr 21 (.t 116)⟩,
             ⟨(some 118), none, .load none (.t 117)⟩,
             ⟨(some 119), none, .move (.t 7)⟩,
             ⟨(some 120), none, .iaddrS 2 (.t 118) (.t 119)⟩,
             ⟨(some 121), none, .faddr 1 (.t 120)⟩,
             ⟨(some 122), none, .load none (.t 121)⟩,
             ⟨(some 123), none, .move (.t 8)⟩,
             ⟨(some 124), none, .iaddrS 2 (.t 122) (.t 123)⟩,
             ⟨(some 125), none, .faddr 0 (.t 124)⟩,
             ⟨(some 126), none, .load none (.t 125)⟩,
             ⟨(some 127), none, .len (.t 126)⟩,
             ⟨(some 128), none, .move (.c (.sc (.int .i64 (0))))⟩])
           (.block 10 (.loop (.seq (.ops [⟨(some 129), none, .bin .lss (.t 128) (.t 127)⟩])
             (.seq (.cond (.t 129)
              (.skip)
              (.exit 10))
             (.seq (.block 11 (.seq (.ops [⟨(some 130), none, .move (.t 128)⟩,
                ⟨(some 9), none, .move (.t 130)⟩])
              (.seq (.ops [⟨(some 131), none, .move (.t 0)⟩,
                ⟨(some 132), none, .move (.t 6)⟩,
                ⟨(some 133), none, .move (.t 7)⟩,
                ⟨(some 134), none, .move (.t 8)⟩,
                ⟨(some 135), none, .move (.t 9)⟩,
                ⟨(some 136), none, .build [(.sc (.int .i64 (0))), (.sc (.int .i64 (0))), (.sc (.int .i64 (0))), (.sc (.int .i64 (0))), (.sc (.int .i64 (0))), (.sc (.int .i64 (0))), (.sc (.int .i64 (0)))] [((0, 1), (.c (.sc (.int .i64 (4))))), ((3, 1), (.t 132)), ((2, 1), (.t 133)), ((4, 1), (.t 134)), ((5, 1), (.t 135))]⟩,
                ⟨(some 137), none, .load none (.t 1)⟩,
                ⟨(some 138), none, .nilCheck (.t 137)⟩,
                ⟨(some 139), none, .faddr 3 (.t 138)⟩,
                ⟨(some 140), none, .load none (.t 139)⟩,
                ⟨(some 141), none, .move (.t 6)⟩,
                ⟨(some 142), none, .iaddrS 22 (.t 140) (.t 141)⟩,
                ⟨(some 143), none, .faddr 21 (.t 142)⟩,
                ⟨(some 144), none, .load none (.t 143)⟩,
                ⟨(some 145), none, .move (.t 7)⟩,
                ⟨(some 146), none, .iaddrS 2 (.t 144) (.t 145)⟩,
                ⟨(some 147), none, .faddr 1 (.t 146)⟩,
                ⟨(some 148), none, .load none (.t 147)⟩,
                ⟨(some 149), none, .move (.t 8)⟩,
                ⟨(some 150), none, .iaddrS 2 (.t 148) (.t 149)⟩,
                ⟨(some 151), none, .faddr 0 (.t 150)⟩,
                ⟨(some 152), none, .load none (.t 151)⟩,
                ⟨(some 153), none, .move (.t 9)⟩,
                ⟨(some 154), none, .iaddrS 13 (.t 152) (.t 153)⟩,
                ⟨(some 155), none, .faddr 0 (.t 154)⟩,
                ⟨(some 156), none, .call (.t 131) [(.t 136), (.t 155)]⟩,
                ⟨(some 157), none, .un .not (.t 156)⟩])
              (.cond (.t 157)
               (.ret)
               (.skip)))))
             (.ops [⟨(some 158), none, .bin .add (.t 128) (.c (.sc (.int .i64 (1))))⟩,
               ⟨(some 128), none, .move (.t 158)⟩])))))))))
          (.ops [⟨(some 159), none, .bin .add (.t 108) (.c (.sc (.int .i64 (1))))⟩,
            ⟨(some 108), none, .move (.t 159)⟩])))))))))
       (.ops [⟨(some 160), none, .bin .add (.t 92) (.c (.sc (.int .i64 (1))))⟩,
         ⟨(some 92), none, .move (.t 160)⟩]))))))))))
    (.ops [⟨(some 161), none, .bin .add (.t 68) (.c (.sc (.int .i64 (1))))⟩,
      ⟨(some 68), none, .move (.t 161)⟩])))))))
  (.seq (.ops [⟨(some 162), none, .load none (.t 1)⟩,
    ⟨(some 163), none, .nilCheck (.t 162)⟩,
    ⟨(some 164), none, .faddr 4 (.t 163)⟩,
    ⟨(some 165), none, .load none (.t 164)⟩,
    ⟨(some 166), none, .len (.t 165)⟩,
    ⟨(some 167), none, .move (.c (.sc (.int .i64 (0))))⟩])
  (.block 12 (.loop (.seq (.ops [⟨(some 168), none, .bin .lss (.t 167) (.t 166)⟩])
    (.seq (.cond (.t 168)
     (.skip)
     (.exit 12))
    (.seq (.block 13 (.seq (.ops [⟨(some 169), none, .move (.t 167)⟩,
       ⟨(some 10), none, .move (.t 169)⟩])
     (.seq (.ops [⟨(some 170), none, .move (.t 0)⟩,
       ⟨(some 171), none, .move (.t 10)⟩,
       ⟨(some 172), none, .build [(.sc (.int .i64 (0))), (.sc (.int .i64 (0))), (.sc (.int .i64 (0))), (.sc (.int .i64 (0))), (.sc (.int .i64 (0))), (.sc (.int .i64 (0))), (.sc (.int .i64 (0)))] [((0, 1), (.c (.sc (.int .i64 (5))))), ((6, 1), (.t 171))]⟩,
       ⟨(some 173), none, .load none (.t 1)⟩,
       ⟨(some 174), none, .nilCheck (.t 173)⟩,
       ⟨(some 175), none, .faddr 4 (.t 174)⟩,
       ⟨(some 176), none, .load none (.t 175)⟩,
       ⟨(some 177), none, .move (.t 10)⟩,
       ⟨(some 178), none, .iaddrS 7 (.t 176) (.t 177)⟩,
       ⟨(some 179), none, .faddr 0 (.t 178)⟩,
       ⟨(some 180), none, .call (.t 170) [(.t 172), (.t 179)]⟩,
       ⟨(some 181), none, .un .not (.t 180)⟩])
     (.cond (.t 181)
      (.ret)
      (.skip)))))
    (.ops [⟨(some 182), none, .bin .add (.t 167) (.c (.sc (.int .i64 (1))))⟩,
      ⟨(some 167), none, .move (.t 182)⟩]))))))))),
  []⟩
theorem ok138 : EntryOk Tryz.prog 138 af138 := ⟨Tryz.f138, _, Tryz.func138, by decide, rfl, by kernel_rfl, by kernel_rfl, rfl⟩
/-- slices.IndexFunc[[]hemiola/api.Cell,hemiola/api.Cell] -/
noncomputable def af142 : AF := ⟨19, .seq (.ops [⟨(some 4), none, .move (.c (.sc (.int .i64 (0))))⟩])
  (.seq (.seq (.ops [⟨(some 6), none, .move (.t 0)⟩,
    ⟨(some 7), none, .len (.t 6)⟩,
    ⟨(some 8), none, .move (.c (.sc (.int .i64 (0))))⟩])
  (.block 0 (.loop (.seq (.ops [⟨(some 9), none, .bin .lss (.t 8) (.t 7)⟩])
    (.seq (.cond (.t 9)
     (.skip)
     (.exit 0))
    (.seq (.block 1 (.seq (.ops [⟨(some 10), none, .move (.t 8)⟩,
       ⟨(some 5), none, .move (.t 10)⟩])
     (.seq (.ops [⟨(some 11), none, .move (.t 1)⟩,
       ⟨(some 12), none, .move (.t 0)⟩,
       ⟨(some 13), none, .move (.t 5)⟩,
       ⟨(some 14), none, .iaddrS 2 (.t 12) (.t 13)⟩,
       ⟨(some 15), none, .load (some 2) (.t 14)⟩,
       ⟨(some 16), none, .call (.t 11) [(.t 15)]⟩])
     (.cond (.t 16)
      (.seq (.ops [⟨(some 17), none, .move (.t 5)⟩,
        ⟨(some 4), none, .move (.t 17)⟩])
      (.ret))
      (.skip)))))
    (.ops [⟨(some 18), none, .bin .add (.t 8) (.c (.sc (.int .i64 (1))))⟩,
      ⟨(some 8), none, .move (.t 18)⟩])))))))
  (.seq (.ops [⟨(some 4), none, .move (.c (.sc (.int .i64 (-1))))⟩])
  (.ret))),
  [.t 4]⟩
theorem ok142 : EntryOk Tryz.prog 142 af142 := ⟨Tryz.f142, _, Tryz.func142, by decide, rfl, by kernel_rfl, by kernel_rfl, rfl⟩
/-- slices.Equal[[]hemiola/api.Head,hemiola/api.Head] -/
noncomputable def af146 : AF := ⟨26, .seq (.ops [⟨(some 4), none, .move (.c (.sc (.bool false)))⟩])
  (.seq (.seq (.ops [⟨(some 6), none, .move (.t 0)⟩,
    ⟨(some 7), none, .len (.t 6)⟩,
    ⟨(some 8), none, .move (.t 1)⟩,
    ⟨(some 9), none, .len (.t 8)⟩,
    ⟨(some 10), none, .bin .neq (.t 7) (.t 9)⟩])
  (.cond (.t 10)
   (.seq (.ops [⟨(some 4), none, .move (.c (.sc (.bool false)))⟩])
   (.ret))
   (.skip)))
  (.seq (.seq (.ops [⟨(some 11), none, .move (.t 0)⟩,
    ⟨(some 12), none, .len (.t 11)⟩,
    ⟨(some 13), none, .move (.c (.sc (.int .i64 (0))))⟩])
  (.block 0 (.loop (.seq (.ops [⟨(some 14), none, .bin .lss (.t 13) (.t 12)⟩])
    (.seq (.cond (.t 14)
     (.skip)
     (.exit 0))
    (.seq (.block 1 (.seq (.ops [⟨(some 15), none, .move (.t 13)⟩,
       ⟨(some 5), none, .move (.t 15)⟩])
     (.seq (.draw [⟨false, [0], ⟨(some 16), none, .move (.t 0)⟩⟩,
       ⟨false, [5], ⟨(some 17), none, .move (.t 5)⟩⟩,
       ⟨false, [16, 17], ⟨(some 18), none, .iaddrS 5 (.t 16) (.t 17)⟩⟩,
       ⟨false, [18], ⟨(some 19), none, .load (some 5) (.t 18)⟩⟩,
       ⟨false, [1], ⟨(some 20), none, .move (.t 1)⟩⟩,
       ⟨false, [5], ⟨(some 21), none, .move (.t 5)⟩⟩,
       ⟨false, [20, 21], ⟨(some 22), none, .iaddrS 5 (.t 20) (.t 21)⟩⟩,
       ⟨false, [22], ⟨(some 23), none, .load (some 5) (.t 22)⟩⟩]
       [⟨(some 24), none, .eqC [.i, .i, .i, .b, .i] true (.t 19) (.t 23)⟩])
     (.cond (.t 24)
      (.seq (.ops [⟨(some 4), none, .move (.c (.sc (.bool false)))⟩])
      (.ret))
      (.skip)))))
    (.ops [⟨(some 25), none, .bin .add (.t 13) (.c (.sc (.int .i64 (1))))⟩,
      ⟨(some 13), none, .move (.t 25)⟩])))))))
  (.seq (.ops [⟨(some 4), none, .move (.c (.sc (.bool true)))⟩])
  (.ret)))),
  [.t 4]⟩
theorem ok146 : EntryOk Tryz.prog 146 af146 := ⟨Tryz.f146, _, Tryz.func146, by decide, rfl, by kernel_rfl, by kernel_rfl, rfl⟩
/-- hemiola/metre.grouped -/
noncomputable def af169 : AF := ⟨50, .seq (.ops [⟨(some 1), none, .box (.t 0)⟩,
    ⟨(some 2), none, .move (.c (.sc (.bool false)))⟩])
  (.seq (.seq (.ops [⟨(some 7), none, .faddr 2 (.t 1)⟩,
    ⟨(some 8), none, .load (some 6) (.t 7)⟩,
    ⟨(some 9), none, .build [(.sc (.int .i64 (0))), (.sc (.int .i64 (0))), (.sc (.int .i64 (0))), (.sc (.int .i64 (0))), (.sc (.int .i64 (0))), (.sc (.int .i64 (0)))] []⟩,
    ⟨(some 10), none, .eqC [.i, .i, .i, .i, .i, .i] false (.t 8) (.t 9)⟩])
  (.cond (.t 10)
   (.seq (.ops [⟨(some 2), none, .move (.c (.sc (.bool true)))⟩])
   (.ret))
   (.skip)))
  (.seq (.ops [⟨(some 3), none, .move (.c (.sc (.int .i64 (0))))⟩,
    ⟨(some 4), none, .move (.c (.sc (.int .i64 (0))))⟩])
  (.seq (.seq (.ops [⟨(some 11), none, .faddr 2 (.t 1)⟩,
    ⟨(some 12), none, .load (some 6) (.t 11)⟩,
    ⟨(some 13), none, .move (.c (.sc (.int .i64 (0))))⟩])
  (.block 0 (.loop (.seq (.ops [⟨(some 14), none, .bin .lss (.t 13) (.c (.sc (.int .i64 (6))))⟩])
    (.seq (.cond (.t 14)
     (.skip)
     (.exit 0))
    (.seq (.block 1 (.seq (.ops [⟨(some 15), none, .move (.t 13)⟩,
       ⟨(some 16), none, .idxA 1 6 none (.t 12) (.t 13)⟩,
       ⟨(some 5), none, .move (.t 15)⟩,
       ⟨(some 6), none, .move (.t 16)⟩])
     (.block 2 (.seq (.ops [⟨(some 18), none, .move (.t 6)⟩,
        ⟨(some 19), none, .bin .lss (.t 18) (.c (.sc (.int .i64 (0))))⟩,
        ⟨(some 20), none, .move (.t 19)⟩,
        ⟨(some 21), (some (20, false)), .move (.t 6)⟩,
        ⟨(some 22), (some (20, false)), .bin .gtr (.t 21) (.c (.sc (.int .i64 (64))))⟩,
        ⟨(some 23), none, .pick (.t 20) (.c (.sc (.bool true))) (.t 22)⟩,
        ⟨(some 24), none, .move (.t 23)⟩,
        ⟨(some 25), (some (24, false)), .move (.t 6)⟩,
        ⟨(some 26), (some (24, false)), .bin .gtr (.t 25) (.c (.sc (.int .i64 (0))))⟩,
        ⟨(some 27), (some (24, false)), .move (.t 26)⟩,
        ⟨(some 28), (some (27, true)), .move (.t 5)⟩,
        ⟨(some 29), (some (27, true)), .move (.t 4)⟩,
        ⟨(some 30), (some (27, true)), .bin .neq (.t 28) (.t 29)⟩,
        ⟨(some 31), (some (24, false)), .pick (.t 27) (.t 30) (.c (.sc (.bool false)))⟩,
        ⟨(some 32), none, .pick (.t 24) (.c (.sc (.bool true))) (.t 31)⟩,
        ⟨(some 17), none, .move (.t 32)⟩])
      (.cond (.t 17)
       (.seq (.ops [⟨(some 2), none, .move (.c (.sc (.bool false)))⟩])
       (.ret))
       (.seq (.ops [⟨(some 34), none, .move (.t 6)⟩,
         ⟨(some 35), none, .bin .gtr (.t 34) (.c (.sc (.int .i64 (0))))⟩,
         ⟨(some 33), none, .move (.t 35)⟩])
       (.cond (.t 33)
        (.ops [⟨(some 36), none, .move (.t 3)⟩,
          ⟨(some 37), none, .move (.t 6)⟩,
          ⟨(some 38), none, .bin .add (.t 36) (.t 37)⟩,
          ⟨(some 39), none, .move (.t 4)⟩,
          ⟨(some 40), none, .bin .add (.t 39) (.c (.sc (.int .i64 (1))))⟩,
          ⟨(some 3), none, .move (.t 38)⟩,
          ⟨(some 4), none, .move (.t 40)⟩])
        (.skip))))))))
    (.ops [⟨(some 41), none, .bin .add (.t 13) (.c (.sc (.int .i64 (1))))⟩,
      ⟨(some 13), none, .move (.t 41)⟩])))))))
  (.seq (.ops [⟨(some 42), none, .move (.t 3)⟩,
    ⟨(some 43), none, .faddr 0 (.t 1)⟩,
    ⟨(some 44), none, .load none (.t 43)⟩,
    ⟨(some 45), none, .bin .eql (.t 42) (.t 44)⟩,
    ⟨(some 46), none, .move (.t 45)⟩,
    ⟨(some 47), (some (46, true)), .move (.t 4)⟩,
    ⟨(some 48), (some (46, true)), .bin .geq (.t 47) (.c (.sc (.int .i64 (2))))⟩,
    ⟨(some 49), none, .pick (.t 46) (.t 48) (.c (.sc (.bool false)))⟩,
    ⟨(some 2), none, .move (.t 49)⟩])
  (.ret))))),
  [.t 2]⟩
theorem ok169 : EntryOk Tryz.prog 169 af169 := ⟨Tryz.f169, _, Tryz.func169, by decide, rfl, by kernel_rfl, by kernel_rfl, rfl⟩
/-- hemiola/voice.whole -/
noncomputable def af178 : AF := ⟨15, .seq (.ops [⟨(some 1), none, .box (.t 0)⟩,
    ⟨(some 2), none, .move (.c (.sc (.bool false)))⟩])
  (.seq (.ops [⟨(some 3), none, .faddr 0 (.t 1)⟩,
    ⟨(some 4), none, .load none (.t 3)⟩,
    ⟨(some 5), none, .len (.t 4)⟩,
    ⟨(some 6), none, .bin .gtr (.t 5) (.c (.sc (.int .i64 (0))))⟩,
    ⟨(some 7), none, .move (.t 6)⟩,
    ⟨(some 8), (some (7, true)), .faddr 0 (.t 1)⟩,
    ⟨(some 9), (some (7, true)), .load none (.t 8)⟩,
    ⟨(some 10), (some (7, true)), .iaddrS 13 (.t 9) (.c (.sc (.int .i64 (0))))⟩,
    ⟨(some 11), (some (7, true)), .faddr 2 (.t 10)⟩,
    ⟨(some 12), (some (7, true)), .load none (.t 11)⟩,
    ⟨(some 13), (some (7, true)), .bin .eql (.t 12) (.c (.sc (.int .i64 (3))))⟩,
    ⟨(some 14), none, .pick (.t 7) (.t 13) (.c (.sc (.bool false)))⟩,
    ⟨(some 2), none, .move (.t 14)⟩])
  (.ret)),
  [.t 2]⟩
theorem ok178 : EntryOk Tryz.prog 178 af178 := ⟨Tryz.f178, _, Tryz.func178, by decide, rfl, by kernel_rfl, by kernel_rfl, rfl⟩
end Go.Proofs.YtfhijafkpenogaaGreatDoor
