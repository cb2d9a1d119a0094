/- Resolved code, printed by a program. -/
import Derived.Test.YtmbchdfgckmpoaaGreatPE21
import Derived.Test.YtmbchdfgckmpoaaGreatProg
namespace Go.Proofs.YtmbchdfgckmpoaaGreat
open Go.PE

/-- hemiola/perform.Sort -/
noncomputable def af12 : AF := ⟨9, .seq (.ops [⟨(some 2), none, .move (.c (.sl true .full 0 []))⟩])
  (.seq (.ops [⟨(some 4), none, .move (.t 0)⟩,
    ⟨(some 5), none, .call (.c (.fn (.func 23) [] [])) [(.t 4)]⟩,
    ⟨(some 3), none, .move (.t 5)⟩])
  (.seq (.ops [⟨(some 6), none, .move (.t 3)⟩,
    ⟨(some 7), none, .call (.c (.fn (.func 24) [] [])) [(.t 6), (.c (.fn (.func 9) [] []))]⟩])
  (.seq (.ops [⟨(some 8), none, .move (.t 3)⟩,
    ⟨(some 2), none, .move (.t 8)⟩])
  (.ret)))),
  [.t 2]⟩
theorem ok12 : EntryOk Tryz.prog 12 af12 := ⟨Tryz.f12, _, Tryz.func12, by decide, rfl, by kernel_rfl, by kernel_rfl, rfl⟩
/-- slices.Clone[[]hemiola/api.Played,hemiola/api.Played] -/
noncomputable def af23 : AF := ⟨8, .seq (.ops [⟨(some 2), none, .move (.c (.sl true .full 0 []))⟩])
  (.seq (.seq (.ops [⟨(some 3), none, .move (.t 0)⟩,
    ⟨(some 4), none, .eqN .sl false (.t 3) (.c (.sl true .full 0 []))⟩])
  (.cond (.t 4)
   (.seq (.ops [⟨(some 2), none, .move (.c (.sl true .full 0 []))⟩])
   (.ret))
   (.skip)))
  (.seq (.ops [⟨(some 5), none, .buildSl 7 []⟩,
    ⟨(some 6), none, .move (.t 0)⟩,
    ⟨(some 7), none, .append 7 56 (.t 5) (.t 6)⟩,
    ⟨(some 2), none, .move (.t 7)⟩])
  (.ret))),
  [.t 2]⟩
theorem ok23 : EntryOk Tryz.prog 23 af23 := ⟨Tryz.f23, _, Tryz.func23, by decide, rfl, by kernel_rfl, by kernel_rfl, rfl⟩
/-- hemiola/unfold.Notes -/
noncomputable def af31 : AF := ⟨101, .seq (.ops [⟨(some 2), none, .box (.t 0)⟩,
    ⟨(some 4), none, .move (.c (.sl true .full 0 []))⟩,
    ⟨(some 5), none, .move (.c (.sc (.int .i64 (0))))⟩])
  (.seq (.ops [⟨(some 17), none, .load (some 6) (.t 2)⟩,
    ⟨(some 18), none, .move (.t 1)⟩,
    ⟨(some 19), none, .call (.c (.fn (.func 34) [] [])) [(.t 17), (.t 18)]⟩,
    ⟨(some 16), none, .move (.t 19)⟩,
    ⟨(some 20), none, .extract 0 (.t 16)⟩,
    ⟨(some 21), none, .extract 1 (.t 16)⟩,
    ⟨(some 6), none, .move (.t 20)⟩,
    ⟨(some 7), none, .move (.t 21)⟩])
  (.seq (.seq (.ops [⟨(some 22), none, .move (.t 7)⟩,
    ⟨(some 23), none, .bin .neq (.t 22) (.c (.sc (.int .i64 (0))))⟩])
  (.cond (.t 23)
   (.seq (.ops [⟨(some 24), none, .move (.t 7)⟩,
     ⟨(some 4), none, .move (.c (.sl true .full 0 []))⟩,
     ⟨(some 5), none, .move (.t 24)⟩])
   (.ret))
   (.skip)))
  (.seq (.ops [⟨(some 26), none, .load (some 6) (.t 2)⟩,
    ⟨(some 27), none, .call (.c (.fn (.func 43) [] [])) [(.t 26)]⟩,
    ⟨(some 25), none, .move (.t 27)⟩,
    ⟨(some 28), none, .extract 0 (.t 25)⟩,
    ⟨(some 29), none, .extract 1 (.t 25)⟩,
    ⟨(some 8), none, .move (.t 28)⟩,
    ⟨(some 7), none, .move (.t 29)⟩])
  (.seq (.seq (.ops [⟨(some 30), none, .move (.t 7)⟩,
    ⟨(some 31), none, .bin .neq (.t 30) (.c (.sc (.int .i64 (0))))⟩])
  (.cond (.t 31)
   (.seq (.ops [⟨(some 32), none, .move (.t 7)⟩,
     ⟨(some 4), none, .move (.c (.sl true .full 0 []))⟩,
     ⟨(some 5), none, .move (.t 32)⟩])
   (.ret))
   (.skip)))
  (.seq (.ops [⟨(some 34), none, .load (some 6) (.t 2)⟩,
    ⟨(some 35), none, .call (.c (.fn (.func 44) [] [])) [(.t 34)]⟩,
    ⟨(some 33), none, .move (.t 35)⟩,
    ⟨(some 36), none, .extract 0 (.t 33)⟩,
    ⟨(some 37), none, .extract 1 (.t 33)⟩,
    ⟨(some 9), none, .move (.t 36)⟩,
    ⟨(some 7), none, .move (.t 37)⟩])
  (.seq (.seq (.ops [⟨(some 38), none, .move (.t 7)⟩,
    ⟨(some 39), none, .bin .neq (.t 38) (.c (.sc (.int .i64 (0))))⟩])
  (.cond (.t 39)
   (.seq (.ops [⟨(some 40), none, .move (.t 7)⟩,
     ⟨(some 4), none, .move (.c (.sl true .full 0 []))⟩,
     ⟨(some 5), none, .move (.t 40)⟩])
   (.ret))
   (.skip)))
  (.seq (.ops [⟨(some 10), none, .move (.c (.sl true .full 0 []))⟩])
  (.seq (.seq (.ops [⟨(some 41), none, .move (.t 1)⟩,
    ⟨(some 42), none, .len (.t 41)⟩,
    ⟨(some 43), none, .move (.c (.sc (.int .i64 (0))))⟩])
  (.block 0 (.loop (.seq (.ops [⟨(some 44), none, .bin .lss (.t 43) (.t 42)⟩])
    (.seq (.cond (.t 44)
     (.skip)
     (.exit 0))
    (.seq (.block 1 (.seq (.ops [⟨(some 45), none, .move (.t 43)⟩,
       ⟨(some 46), none, .iaddrS 2 (.t 41) (.t 43)⟩,
       ⟨(some 47), none, .load (some 2) (.t 46)⟩,
       ⟨(some 12), none, .alloc [(.sc (.int .i64 (0))), (.sc (.int .i64 (0)))]⟩,
       ⟨(some 11), none, .move (.t 45)⟩,
       ⟨none, none, .store 2 (.t 12) (.t 47)⟩])
     (.seq (.ops [⟨(some 48), none, .move (.t 9)⟩,
       ⟨(some 49), none, .len (.t 48)⟩,
       ⟨(some 50), none, .move (.c (.sc (.int .i64 (0))))⟩])
     (.block 2 (.loop (.seq (.ops [⟨(some 51), none, .bin .lss (.t 50) (.t 49)⟩])
       (.seq (.cond (.t 51)
        (.skip)
        (.exit 2))
       (.seq (.block 3 (.seq (.ops [⟨(some 52), none, .iaddrS 9 (.t 48) (.t 50)⟩,
          ⟨(some 53), none, .load (some 9) (.t 52)⟩,
          ⟨(some 14), none, .alloc [(.sc (.int .i64 (0))), (.sc (.int .i64 (0))), (.sc (.int .i64 (0))), (.sc (.int .i64 (0))), (.sc (.int .i64 (0))), (.sc (.int .i64 (0))), (.sc (.int .i64 (0))), (.sc (.int .i64 (0))), (.sc (.int .i64 (0)))]⟩,
          ⟨none, none, .store 9 (.t 14) (.t 53)⟩])
        (.seq (.draw [⟨false, [14], [], ⟨(some 54), none, .faddr 0 (.t 14)⟩⟩,
          ⟨false, [54], [], ⟨(some 55), none, .load none (.t 54)⟩⟩,
          ⟨false, [8], [], ⟨(some 56), none, .move (.t 8)⟩⟩,
          ⟨false, [12], [], ⟨(some 57), none, .faddr 0 (.t 12)⟩⟩,
          ⟨false, [57], [], ⟨(some 58), none, .load none (.t 57)⟩⟩,
          ⟨false, [56, 58], [], ⟨(some 59), none, .iaddrS 1 (.t 56) (.t 58)⟩⟩,
          ⟨false, [59], [], ⟨(some 60), none, .load none (.t 59)⟩⟩,
          ⟨true, [55, 60], [], ⟨(some 61), none, .bin .geq (.t 55) (.t 60)⟩⟩,
          ⟨true, [61], [], ⟨(some 62), none, .move (.t 61)⟩⟩,
          ⟨false, [14, 62], [], ⟨(some 63), (some (62, true)), .faddr 0 (.t 14)⟩⟩,
          ⟨false, [63, 62], [], ⟨(some 64), (some (62, true)), .load none (.t 63)⟩⟩,
          ⟨false, [8, 62], [], ⟨(some 65), (some (62, true)), .move (.t 8)⟩⟩,
          ⟨false, [12, 62], [], ⟨(some 66), (some (62, true)), .faddr 0 (.t 12)⟩⟩,
          ⟨false, [66, 62], [], ⟨(some 67), (some (62, true)), .load none (.t 66)⟩⟩,
          ⟨false, [67, 62], [], ⟨(some 68), (some (62, true)), .bin .add (.t 67) (.c (.sc (.int .i64 (1))))⟩⟩,
          ⟨false, [65, 68, 62], [], ⟨(some 69), (some (62, true)), .iaddrS 1 (.t 65) (.t 68)⟩⟩,
          ⟨false, [69, 62], [], ⟨(some 70), (some (62, true)), .load none (.t 69)⟩⟩]
          [⟨(some 71), (some (62, true)), .bin .lss (.t 64) (.t 70)⟩,
          ⟨(some 72), none, .pick (.t 62) (.t 71) (.c (.sc (.bool false)))⟩])
        (.cond (.t 72)
         (.seq (.draw [⟨false, [6], [], ⟨(some 73), none, .move (.t 6)⟩⟩,
           ⟨false, [11], [], ⟨(some 74), none, .move (.t 11)⟩⟩,
           ⟨false, [73, 74], [], ⟨(some 75), none, .iaddrS 1 (.t 73) (.t 74)⟩⟩,
           ⟨false, [75], [], ⟨(some 76), none, .load none (.t 75)⟩⟩,
           ⟨false, [8], [], ⟨(some 77), none, .move (.t 8)⟩⟩,
           ⟨false, [12], [], ⟨(some 78), none, .faddr 0 (.t 12)⟩⟩,
           ⟨false, [78], [], ⟨(some 79), none, .load none (.t 78)⟩⟩,
           ⟨false, [77, 79], [], ⟨(some 80), none, .iaddrS 1 (.t 77) (.t 79)⟩⟩,
           ⟨false, [80], [], ⟨(some 81), none, .load none (.t 80)⟩⟩]
           [⟨(some 82), none, .bin .sub (.t 76) (.t 81)⟩,
           ⟨(some 15), none, .move (.t 82)⟩])
         (.seq (.ops [⟨(some 83), none, .faddr 0 (.t 14)⟩,
           ⟨(some 84), none, .load none (.t 83)⟩,
           ⟨(some 85), none, .move (.t 15)⟩,
           ⟨(some 86), none, .bin .add (.t 84) (.t 85)⟩,
           ⟨(some 87), none, .faddr 1 (.t 14)⟩,
           ⟨(some 88), none, .load none (.t 87)⟩,
           ⟨(some 89), none, .move (.t 15)⟩,
           ⟨(some 90), none, .bin .add (.t 88) (.t 89)⟩,
           ⟨(some 91), none, .faddr 0 (.t 14)⟩,
           ⟨none, none, .store 1 (.t 91) (.t 86)⟩,
           ⟨(some 92), none, .faddr 1 (.t 14)⟩,
           ⟨none, none, .store 1 (.t 92) (.t 90)⟩])
         (.ops [⟨(some 93), none, .move (.t 10)⟩,
           ⟨(some 94), none, .load (some 9) (.t 14)⟩,
           ⟨(some 95), none, .buildSl 9 [(.t 94)]⟩,
           ⟨(some 96), none, .appendM 9 72 (.t 93) (.t 95)⟩,
           ⟨(some 10), none, .move (.t 96)⟩])))
         (.skip)))))
       (.ops [⟨(some 97), none, .bin .add (.t 50) (.c (.sc (.int .i64 (1))))⟩,
         ⟨(some 50), none, .move (.t 97)⟩])))))))))
    (.ops [⟨(some 98), none, .bin .add (.t 43) (.c (.sc (.int .i64 (1))))⟩,
      ⟨(some 43), none, .move (.t 98)⟩])))))))
  (.seq (.ops [⟨(some 99), none, .move (.t 10)⟩,
    ⟨(some 100), none, .call (.c (.fn (.func 45) [] [])) [(.t 99)]⟩,
    ⟨(some 4), none, .move (.t 100)⟩,
    ⟨(some 5), none, .move (.c (.sc (.int .i64 (0))))⟩])
  (.ret)))))))))),
  [.t 4, .t 5]⟩
theorem ok31 : EntryOk Tryz.prog 31 af31 := ⟨Tryz.f31, _, Tryz.func31, by decide, rfl, by kernel_rfl, by kernel_rfl, rfl⟩
/-- hemiola/ornament.Percents -/
noncomputable def af35 : AF := ⟨29, .seq (.ops [⟨(some 1), none, .box (.t 0)⟩,
    ⟨(some 2), none, .move (.c (.sl true .full 0 []))⟩,
    ⟨(some 3), none, .move (.c (.sc (.int .i64 (0))))⟩])
  (.seq (.seq (.ops [⟨(some 8), none, .load (some 6) (.t 1)⟩,
    ⟨(some 9), none, .call (.c (.fn (.func 29) [] [])) [(.t 8)]⟩,
    ⟨(some 10), none, .un .not (.t 9)⟩])
  (.cond (.t 10)
   (.seq (.ops [⟨(some 2), none, .move (.c (.sl true .full 0 []))⟩,
     ⟨(some 3), none, .move (.c (.sc (.int .i64 (24))))⟩])
   (.ret))
   (.skip)))
  (.seq (.ops [⟨(some 4), none, .move (.c (.sl true .full 0 []))⟩])
  (.seq (.ops [⟨(some 5), none, .move (.c (.sc (.int .i64 (50))))⟩])
  (.seq (.seq (.ops [⟨(some 11), none, .faddr 3 (.t 1)⟩,
    ⟨(some 12), none, .load none (.t 11)⟩,
    ⟨(some 13), none, .len (.t 12)⟩,
    ⟨(some 14), none, .move (.c (.sc (.int .i64 (0))))⟩])
  (.block 0 (.loop (.seq (.ops [⟨(some 15), none, .bin .lss (.t 14) (.t 13)⟩])
    (.seq (.cond (.t 15)
     (.skip)
     (.exit 0))
    (.seq (.block 1 (.seq (.ops [⟨(some 16), none, .iaddrS 22 (.t 12) (.t 14)⟩,
       ⟨(some 17), none, .load (some 22) (.t 16)⟩,
       ⟨(some 7), none, .alloc [(.sc (.int .i64 (0))), (.sc (.int .i64 (0))), (.sc (.int .i64 (0))), (.sc (.int .i64 (0))), (.sc (.int .i64 (0))), (.sc (.int .i64 (0))), (.sc (.int .i64 (0))), (.sc (.int .i64 (0))), (.sc (.int .i64 (0))), (.sc (.int .i64 (0))), (.sc (.int .i64 (0))), (.sc (.int .i64 (0))), (.sc (.bool false)), (.sc (.int .i64 (0))), (.sc (.int .i64 (0))), (.sc (.int .i64 (0))), (.sc (.int .i64 (0))), (.sc (.int .i64 (0))), (.sc (.int .i64 (0))), (.sc (.string ⟨#[]⟩)), (.sl true .full 0 []), (.sl true .full 0 [])]⟩,
       ⟨none, none, .store 22 (.t 7) (.t 17)⟩])
     (.seq (.seq (.ops [⟨(some 18), none, .faddr 17 (.t 7)⟩,
       ⟨(some 19), none, .load none (.t 18)⟩,
       ⟨(some 20), none, .bin .neq (.t 19) (.c (.sc (.int .i64 (0))))⟩])
     (.cond (.t 20)
      (.ops [⟨(some 21), none, .faddr 17 (.t 7)⟩,
        ⟨(some 22), none, .load none (.t 21)⟩,
        ⟨(some 5), none, .move (.t 22)⟩])
      (.skip)))
     (.ops [⟨(some 23), none, .move (.t 4)⟩,
       ⟨(some 24), none, .move (.t 5)⟩,
       ⟨(some 25), none, .buildSl 1 [(.t 24)]⟩,
       ⟨(some 26), none, .append 1 8 (.t 23) (.t 25)⟩,
       ⟨(some 4), none, .move (.t 26)⟩]))))
    (.ops [⟨(some 27), none, .bin .add (.t 14) (.c (.sc (.int .i64 (1))))⟩,
      ⟨(some 14), none, .move (.t 27)⟩])))))))
  (.seq (.ops [⟨(some 28), none, .move (.t 4)⟩,
    ⟨(some 2), none, .move (.t 28)⟩,
    ⟨(some 3), none, .move (.c (.sc (.int .i64 (0))))⟩])
  (.ret)))))),
  [.t 2, .t 3]⟩
theorem ok35 : EntryOk Tryz.prog 35 af35 := ⟨Tryz.f35, _, Tryz.func35, by decide, rfl, by kernel_rfl, by kernel_rfl, rfl⟩
/-- slices.stableCmpFunc[hemiola/api.Played] -/
noncomputable def af40 : AF := ⟨63, .seq (.ops [⟨(some 6), none, .move (.c (.sc (.int .i64 (20))))⟩])
  (.seq (.ops [⟨(some 10), none, .move (.t 6)⟩,
    ⟨(some 7), none, .move (.c (.sc (.int .i64 (0))))⟩,
    ⟨(some 8), none, .move (.t 10)⟩])
  (.seq (.block 0 (.loop (.seq (.seq (.ops [⟨(some 11), none, .move (.t 8)⟩,
      ⟨(some 12), none, .move (.t 1)⟩,
      ⟨(some 13), none, .bin .leq (.t 11) (.t 12)⟩])
    (.cond (.t 13)
     (.skip)
     (.exit 0)))
    (.block 1 (.seq (.ops [⟨(some 14), none, .move (.t 0)⟩,
       ⟨(some 15), none, .move (.t 7)⟩,
       ⟨(some 16), none, .move (.t 8)⟩,
       ⟨(some 17), none, .move (.t 2)⟩,
       ⟨(some 18), none, .call (.c (.fn (.func 73) [] [])) [(.t 14), (.t 15), (.t 16), (.t 17)]⟩])
     (.seq (.ops [⟨(some 19), none, .move (.t 8)⟩,
       ⟨(some 7), none, .move (.t 19)⟩])
     (.ops [⟨(some 20), none, .move (.t 8)⟩,
       ⟨(some 21), none, .move (.t 6)⟩,
       ⟨(some 22), none, .bin .add (.t 20) (.t 21)⟩,
       ⟨(some 8), none, .move (.t 22)⟩])))))))
  (.seq (.ops [⟨(some 23), none, .move (.t 0)⟩,
    ⟨(some 24), none, .move (.t 7)⟩,
    ⟨(some 25), none, .move (.t 1)⟩,
    ⟨(some 26), none, .move (.t 2)⟩,
    ⟨(some 27), none, .call (.c (.fn (.func 73) [] [])) [(.t 23), (.t 24), (.t 25), (.t 26)]⟩])
  (.block 2 (.loop (.seq (.seq (.ops [⟨(some 28), none, .move (.t 6)⟩,
      ⟨(some 29), none, .move (.t 1)⟩,
      ⟨(some 30), none, .bin .lss (.t 28) (.t 29)⟩])
    (.cond (.t 30)
     (.skip)
     (.exit 2)))
    (.block 3 (.seq (.ops [⟨(some 31), none, .move (.t 6)⟩,
       ⟨(some 32), none, .bin .mul (.c (.sc (.int .i64 (2)))) (.t 31)⟩,
       ⟨(some 7), none, .move (.c (.sc (.int .i64 (0))))⟩,
       ⟨(some 8), none, .move (.t 32)⟩])
     (.seq (.block 4 (.loop (.seq (.seq (.ops [⟨(some 33), none, .move (.t 8)⟩,
         ⟨(some 34), none, .move (.t 1)⟩,
         ⟨(some 35), none, .bin .leq (.t 33) (.t 34)⟩])
       (.cond (.t 35)
        (.skip)
        (.exit 4)))
       (.block 5 (.seq (.ops [⟨(some 36), none, .move (.t 0)⟩,
          ⟨(some 37), none, .move (.t 7)⟩,
          ⟨(some 38), none, .move (.t 7)⟩,
          ⟨(some 39), none, .move (.t 6)⟩,
          ⟨(some 40), none, .bin .add (.t 38) (.t 39)⟩,
          ⟨(some 41), none, .move (.t 8)⟩,
          ⟨(some 42), none, .move (.t 2)⟩,
          ⟨(some 43), none, .call (.c (.fn (.func 74) [] [])) [(.t 36), (.t 37), (.t 40), (.t 41), (.t 42)]⟩])
        (.seq (.ops [⟨(some 44), none, .move (.t 8)⟩,
          ⟨(some 7), none, .move (.t 44)⟩])
        (.ops [⟨(some 45), none, .move (.t 8)⟩,
          ⟨(some 46), none, .move (.t 6)⟩,
          ⟨(some 47), none, .bin .mul (.c (.sc (.int .i64 (2)))) (.t 46)⟩,
          ⟨(some 48), none, .bin .add (.t 45) (.t 47)⟩,
          ⟨(some 8), none, .move (.t 48)⟩])))))))
     (.seq (.seq (.ops [⟨(some 49), none, .move (.t 7)⟩,
       ⟨(some 50), none, .move (.t 6)⟩,
       ⟨(some 51), none, .bin .add (.t 49) (.t 50)⟩,
       ⟨(some 9), none, .move (.t 51)⟩])
     (.seq (.ops [⟨(some 52), none, .move (.t 9)⟩,
       ⟨(some 53), none, .move (.t 1)⟩,
       ⟨(some 54), none, .bin .lss (.t 52) (.t 53)⟩])
     (.cond (.t 54)
      (.ops [⟨(some 55), none, .move (.t 0)⟩,
        ⟨(some 56), none, .move (.t 7)⟩,
        ⟨(some 57), none, .move (.t 9)⟩,
        ⟨(some 58), none, .move (.t 1)⟩,
        ⟨(some 59), none, .move (.t 2)⟩,
        ⟨(some 60), none, .call (.c (.fn (.func 74) [] [])) [(.t 55), (.t 56), (.t 57), (.t 58), (.t 59)]⟩])
      (.skip))))
     (.ops [⟨(some 61), none, .move (.t 6)⟩,
       ⟨(some 62), none, .bin .mul (.t 61) (.c (.sc (.int .i64 (2))))⟩,
       ⟨(some 6), none, .move (.t 62)⟩]))))))))))),
  []⟩
theorem ok40 : EntryOk Tryz.prog 40 af40 := ⟨Tryz.f40, _, Tryz.func40, by decide, rfl, by kernel_rfl, by kernel_rfl, rfl⟩
/-- hemiola/timeline.Notes -/
noncomputable def af44 : AF := ⟨73, .seq (.ops [⟨(some 1), none, .box (.t 0)⟩,
    ⟨(some 2), none, .move (.c (.sl true .full 0 []))⟩,
    ⟨(some 3), none, .move (.c (.sc (.int .i64 (0))))⟩])
  (.seq (.seq (.ops [⟨(some 15), none, .load (some 6) (.t 1)⟩,
    ⟨(some 16), none, .call (.c (.fn (.func 29) [] [])) [(.t 15)]⟩,
    ⟨(some 17), none, .un .not (.t 16)⟩])
  (.cond (.t 17)
   (.seq (.ops [⟨(some 2), none, .move (.c (.sl true .full 0 []))⟩,
     ⟨(some 3), none, .move (.c (.sc (.int .i64 (24))))⟩])
   (.ret))
   (.skip)))
  (.seq (.ops [⟨(some 4), none, .alloc [(.sl true .full 0 [])]⟩])
  (.seq (.ops [⟨(some 18), none, .load (some 6) (.t 1)⟩,
    ⟨(some 19), none, .call (.c (.fn (.func 96) [] [])) [(.t 18)]⟩,
    ⟨(some 5), none, .move (.t 19)⟩])
  (.seq (.seq (.ops [⟨(some 20), none, .load (some 6) (.t 1)⟩,
    ⟨(some 21), none, .call (.c (.fn (.func 97) [] [])) [(.t 20)]⟩,
    ⟨(some 22), none, .move (.c (.sc (.int .i64 (0))))⟩])
  (.block 0 (.loop (.seq (.ops [⟨(some 23), none, .bin .lss (.t 22) (.t 21)⟩])
    (.seq (.cond (.t 23)
     (.skip)
     (.exit 0))
    (.seq (.block 1 (.seq (.ops [⟨(some 24), none, .move (.t 22)⟩,
       ⟨(some 6), none, .move (.t 24)⟩])
     (.seq (.ops [⟨(some 26), none, .load (some 6) (.t 1)⟩,
       ⟨(some 27), none, .move (.t 6)⟩,
       ⟨(some 28), none, .call (.c (.fn (.func 98) [] [])) [(.t 26), (.t 27)]⟩,
       ⟨(some 25), none, .move (.t 28)⟩,
       ⟨(some 29), none, .extract 0 (.t 25)⟩,
       ⟨(some 30), none, .extract 1 (.t 25)⟩,
       ⟨(some 31), none, .extract 2 (.t 25)⟩,
       ⟨(some 7), none, .move (.t 29)⟩,
       ⟨(some 8), none, .move (.t 30)⟩,
       ⟨(some 9), none, .move (.t 31)⟩])
     (.seq (.ops [⟨(some 10), none, .move (.c (.sc (.int .i64 (0))))⟩])
     (.seq (.seq (.ops [⟨(some 32), none, .faddr 1 (.t 1)⟩,
       ⟨(some 33), none, .load none (.t 32)⟩])
     (.cond (.t 33)
      (.ops [⟨(some 34), none, .faddr 2 (.t 1)⟩,
        ⟨(some 35), none, .load none (.t 34)⟩,
        ⟨(some 36), none, .move (.t 7)⟩,
        ⟨(some 37), none, .iaddrS 6 (.t 35) (.t 36)⟩,
        ⟨(some 38), none, .faddr 3 (.t 37)⟩,
        ⟨(some 39), none, .faddr 1 (.t 38)⟩,
        ⟨(some 40), none, .load none (.t 39)⟩,
        ⟨(some 10), none, .move (.t 40)⟩])
      (.skip)))
     (.seq (.ops [⟨(some 41), none, .move (.c (.sc (.int .i64 (0))))⟩])
     (.block 2 (.loop (.seq (.ops [⟨(some 42), none, .bin .lss (.t 41) (.c (.sc (.int .i64 (2))))⟩])
       (.seq (.cond (.t 42)
        (.skip)
        (.exit 2))
       (.seq (.block 3 (.seq (.ops [⟨(some 43), none, .move (.t 41)⟩,
          ⟨(some 11), none, .move (.t 43)⟩])
        (.seq (.ops [⟨(some 44), none, .move (.t 7)⟩,
          ⟨(some 45), none, .move (.t 8)⟩,
          ⟨(some 46), none, .move (.t 11)⟩,
          ⟨(some 47), none, .build [(.sc (.int .i64 (0))), (.sc (.int .i64 (0))), (.sc (.int .i64 (0))), (.sc (.int .i64 (0))), (.sc (.int .i64 (0))), (.sc (.int .i64 (0))), (.sc (.int .i64 (0))), (.sc (.int .i64 (0))), (.sc (.int .i64 (0)))] [((3, 1), (.t 44)), ((4, 1), (.t 45)), ((5, 1), (.t 46))]⟩,
          ⟨(some 48), none, .move (.t 10)⟩,
          ⟨(some 49), none, .build [(.sc (.pointer none)), (.sc (.map none)), (.sc (.int .i64 (0))), (.sc (.int .i64 (0))), (.sc (.int .i64 (0))), (.sc (.int .i64 (0))), (.sc (.int .i64 (0))), (.sc (.int .i64 (0))), (.sc (.int .i64 (0))), (.sc (.int .i64 (0))), (.sc (.int .i64 (0))), (.sc (.int .i64 (0)))] [((0, 1), (.t 4)), ((2, 9), (.t 47)), ((11, 1), (.t 48))]⟩,
          ⟨(some 50), none, .box (.t 49)⟩,
          ⟨(some 12), none, .move (.t 50)⟩])
        (.seq (.ops [⟨(some 51), none, .faddr 3 (.t 1)⟩,
          ⟨(some 52), none, .load none (.t 51)⟩,
          ⟨(some 53), none, .len (.t 52)⟩,
          ⟨(some 54), none, .move (.c (.sc (.int .i64 (0))))⟩])
        (.block 4 (.loop (.seq (.ops [⟨(some 55), none, .bin .lss (.t 54) (.t 53)⟩])
          (.seq (.cond (.t 55)
           (.skip)
           (.exit 4))
          (.seq (.block 5 (.seq (.ops [⟨(some 56), none, .move (.t 54)⟩,
             ⟨(some 57), none, .iaddrS 22 (.t 52) (.t 54)⟩,
             ⟨(some 58), none, .load (some 22) (.t 57)⟩,
             ⟨(some 14), none, .alloc [(.sc (.int .i64 (0))), (.sc (.int .i64 (0))), (.sc (.int .i64 (0))), (.sc (.int .i64 (0))), (.sc (.int .i64 (0))), (.sc (.int .i64 (0))), (.sc (.int .i64 (0))), (.sc (.int .i64 (0))), (.sc (.int .i64 (0))), (.sc (.int .i64 (0))), (.sc (.int .i64 (0))), (.sc (.int .i64 (0))), (.sc (.bool false)), (.sc (.int .i64 (0))), (.sc (.int .i64 (0))), (.sc (.int .i64 (0))), (.sc (.int .i64 (0))), (.sc (.int .i64 (0))), (.sc (.int .i64 (0))), (.sc (.string ⟨#[]⟩)), (.sl true .full 0 []), (.sl true .full 0 [])]⟩,
             ⟨(some 13), none, .move (.t 56)⟩,
             ⟨none, none, .store 22 (.t 14) (.t 58)⟩])
           (.draw [⟨false, [12], [], ⟨(some 59), none, .move (.t 12)⟩⟩,
             ⟨false, [14], [], ⟨(some 60), none, .load (some 22) (.t 14)⟩⟩,
             ⟨false, [5], [], ⟨(some 61), none, .move (.t 5)⟩⟩,
             ⟨false, [13], [], ⟨(some 62), none, .move (.t 13)⟩⟩,
             ⟨false, [61, 62], [], ⟨(some 63), none, .iaddrS 1 (.t 61) (.t 62)⟩⟩,
             ⟨false, [63], [], ⟨(some 64), none, .load none (.t 63)⟩⟩,
             ⟨false, [6], [], ⟨(some 65), none, .move (.t 6)⟩⟩,
             ⟨false, [11], [], ⟨(some 66), none, .move (.t 11)⟩⟩]
             [⟨(some 67), none, .call (.c (.fn (.func 99) [] [])) [(.t 59), (.t 60), (.t 64), (.t 65), (.t 66)]⟩])))
          (.ops [⟨(some 68), none, .bin .add (.t 54) (.c (.sc (.int .i64 (1))))⟩,
            ⟨(some 54), none, .move (.t 68)⟩]))))))))))
       (.ops [⟨(some 69), none, .bin .add (.t 41) (.c (.sc (.int .i64 (1))))⟩,
         ⟨(some 41), none, .move (.t 69)⟩]))))))))))))
    (.ops [⟨(some 70), none, .bin .add (.t 22) (.c (.sc (.int .i64 (1))))⟩,
      ⟨(some 22), none, .move (.t 70)⟩])))))))
  (.seq (.ops [⟨(some 71), none, .load none (.t 4)⟩,
    ⟨(some 72), none, .call (.c (.fn (.func 45) [] [])) [(.t 71)]⟩,
    ⟨(some 2), none, .move (.t 72)⟩,
    ⟨(some 3), none, .move (.c (.sc (.int .i64 (0))))⟩])
  (.ret)))))),
  [.t 2, .t 3]⟩
theorem ok44 : EntryOk Tryz.prog 44 af44 := ⟨Tryz.f44, _, Tryz.func44, by decide, rfl, by kernel_rfl, by kernel_rfl, rfl⟩
/-- hemiola/tempo.marks -/
noncomputable def af48 : AF := ⟨52, .seq (.ops [⟨(some 1), none, .box (.t 0)⟩,
    ⟨(some 2), none, .move (.c (.sl true .full 0 []))⟩,
    ⟨(some 3), none, .move (.c (.sl true .full 0 []))⟩])
  (.seq (.ops [⟨(some 12), none, .load (some 6) (.t 1)⟩,
    ⟨(some 13), none, .call (.c (.fn (.func 43) [] [])) [(.t 12)]⟩,
    ⟨(some 11), none, .move (.t 13)⟩,
    ⟨(some 14), none, .extract 0 (.t 11)⟩,
    ⟨(some 15), none, .extract 1 (.t 11)⟩,
    ⟨(some 4), none, .move (.t 14)⟩,
    ⟨(some 5), none, .move (.t 15)⟩])
  (.seq (.ops [⟨(some 16), none, .build [(.sc (.int .i64 (0))), (.sc (.int .i64 (0))), (.sc (.bool false))] [((0, 1), (.c (.sc (.int .i64 (-1))))), ((1, 1), (.c (.sc (.int .i64 (500000)))))]⟩,
    ⟨(some 17), none, .buildSl 3 [(.t 16)]⟩,
    ⟨(some 6), none, .move (.t 17)⟩])
  (.seq (.seq (.ops [⟨(some 18), none, .faddr 3 (.t 1)⟩,
    ⟨(some 19), none, .load none (.t 18)⟩,
    ⟨(some 20), none, .len (.t 19)⟩,
    ⟨(some 21), none, .move (.c (.sc (.int .i64 (0))))⟩])
  (.block 0 (.loop (.seq (.ops [⟨(some 22), none, .bin .lss (.t 21) (.t 20)⟩])
    (.seq (.cond (.t 22)
     (.skip)
     (.exit 0))
    (.seq (.block 1 (.seq (.ops [⟨(some 23), none, .move (.t 21)⟩,
       ⟨(some 24), none, .iaddrS 22 (.t 19) (.t 21)⟩,
       ⟨(some 25), none, .load (some 22) (.t 24)⟩,
       ⟨(some 8), none, .alloc [(.sc (.int .i64 (0))), (.sc (.int .i64 (0))), (.sc (.int .i64 (0))), (.sc (.int .i64 (0))), (.sc (.int .i64 (0))), (.sc (.int .i64 (0))), (.sc (.int .i64 (0))), (.sc (.int .i64 (0))), (.sc (.int .i64 (0))), (.sc (.int .i64 (0))), (.sc (.int .i64 (0))), (.sc (.int .i64 (0))), (.sc (.bool false)), (.sc (.int .i64 (0))), (.sc (.int .i64 (0))), (.sc (.int .i64 (0))), (.sc (.int .i64 (0))), (.sc (.int .i64 (0))), (.sc (.int .i64 (0))), (.sc (.string ⟨#[]⟩)), (.sl true .full 0 []), (.sl true .full 0 [])]⟩,
       ⟨(some 7), none, .move (.t 23)⟩,
       ⟨none, none, .store 22 (.t 8) (.t 25)⟩])
     (.seq (.ops [⟨(some 26), none, .faddr 20 (.t 8)⟩,
       ⟨(some 27), none, .load none (.t 26)⟩,
       ⟨(some 28), none, .len (.t 27)⟩,
       ⟨(some 29), none, .move (.c (.sc (.int .i64 (0))))⟩])
     (.block 2 (.loop (.seq (.ops [⟨(some 30), none, .bin .lss (.t 29) (.t 28)⟩])
       (.seq (.cond (.t 30)
        (.skip)
        (.exit 2))
       (.seq (.block 3 (.seq (.ops [⟨(some 31), none, .iaddrS 3 (.t 27) (.t 29)⟩,
          ⟨(some 32), none, .load (some 3) (.t 31)⟩,
          ⟨(some 10), none, .alloc [(.sc (.int .i64 (0))), (.sc (.int .i64 (0))), (.sc (.bool false))]⟩,
          ⟨none, none, .store 3 (.t 10) (.t 32)⟩])
        (.draw [⟨false, [6], [], ⟨(some 33), none, .move (.t 6)⟩⟩,
          ⟨false, [4], [], ⟨(some 34), none, .move (.t 4)⟩⟩,
          ⟨false, [7], [], ⟨(some 35), none, .move (.t 7)⟩⟩,
          ⟨false, [34, 35], [], ⟨(some 36), none, .iaddrS 1 (.t 34) (.t 35)⟩⟩,
          ⟨false, [36], [], ⟨(some 37), none, .load none (.t 36)⟩⟩,
          ⟨false, [10], [], ⟨(some 38), none, .faddr 0 (.t 10)⟩⟩,
          ⟨false, [38], [], ⟨(some 39), none, .load none (.t 38)⟩⟩,
          ⟨false, [37, 39], [], ⟨(some 40), none, .bin .add (.t 37) (.t 39)⟩⟩,
          ⟨false, [10], [], ⟨(some 41), none, .faddr 1 (.t 10)⟩⟩,
          ⟨false, [41], [], ⟨(some 42), none, .load none (.t 41)⟩⟩,
          ⟨false, [10], [], ⟨(some 43), none, .faddr 2 (.t 10)⟩⟩,
          ⟨false, [43], [], ⟨(some 44), none, .load none (.t 43)⟩⟩,
          ⟨true, [40, 42, 44], [], ⟨(some 45), none, .build [(.sc (.int .i64 (0))), (.sc (.int .i64 (0))), (.sc (.bool false))] [((0, 1), (.t 40)), ((1, 1), (.t 42)), ((2, 1), (.t 44))]⟩⟩,
          ⟨true, [45], [], ⟨(some 46), none, .buildSl 3 [(.t 45)]⟩⟩]
          [⟨(some 47), none, .append 3 24 (.t 33) (.t 46)⟩,
          ⟨(some 6), none, .move (.t 47)⟩])))
       (.ops [⟨(some 48), none, .bin .add (.t 29) (.c (.sc (.int .i64 (1))))⟩,
         ⟨(some 29), none, .move (.t 48)⟩])))))))))
    (.ops [⟨(some 49), none, .bin .add (.t 21) (.c (.sc (.int .i64 (1))))⟩,
      ⟨(some 21), none, .move (.t 49)⟩])))))))
  (.seq (.ops [⟨(some 50), none, .move (.t 6)⟩,
    ⟨(some 51), none, .move (.t 4)⟩,
    ⟨(some 2), none, .move (.t 50)⟩,
    ⟨(some 3), none, .move (.t 51)⟩])
  (.ret))))),
  [.t 2, .t 3]⟩
theorem ok48 : EntryOk Tryz.prog 48 af48 := ⟨Tryz.f48, _, Tryz.func48, by decide, rfl, by kernel_rfl, by kernel_rfl, rfl⟩
/-- hemiola/tempo.timed -/
noncomputable def af52 : AF := ⟨39, .seq (.ops [⟨(some 2), none, .move (.c (.sc (.pointer none)))⟩])
  (.seq (.ops [⟨(some 7), none, .move (.t 0)⟩,
    ⟨(some 8), none, .call (.c (.fn (.func 105) [] [])) [(.t 7)]⟩,
    ⟨(some 9), none, .build [(.sl true .full 0 []), (.sl true .full 0 [])] [((0, 1), (.t 8))]⟩,
    ⟨(some 10), none, .box (.t 9)⟩,
    ⟨(some 3), none, .move (.t 10)⟩])
  (.seq (.ops [⟨(some 4), none, .move (.c (.sc (.int .i64 (0))))⟩])
  (.seq (.seq (.ops [⟨(some 11), none, .move (.t 3)⟩,
    ⟨(some 12), none, .nilCheck (.t 11)⟩,
    ⟨(some 13), none, .faddr 0 (.t 12)⟩,
    ⟨(some 14), none, .load none (.t 13)⟩,
    ⟨(some 15), none, .len (.t 14)⟩,
    ⟨(some 16), none, .move (.c (.sc (.int .i64 (0))))⟩])
  (.block 0 (.loop (.seq (.ops [⟨(some 17), none, .bin .lss (.t 16) (.t 15)⟩])
    (.seq (.cond (.t 17)
     (.skip)
     (.exit 0))
    (.seq (.block 1 (.seq (.ops [⟨(some 18), none, .move (.t 16)⟩,
       ⟨(some 5), none, .move (.t 18)⟩])
     (.seq (.ops [⟨(some 19), none, .move (.t 3)⟩,
       ⟨(some 20), none, .nilCheck (.t 19)⟩,
       ⟨(some 21), none, .faddr 0 (.t 20)⟩,
       ⟨(some 22), none, .load none (.t 21)⟩,
       ⟨(some 23), none, .move (.t 5)⟩,
       ⟨(some 24), none, .iaddrS 5 (.t 22) (.t 23)⟩,
       ⟨(some 6), none, .move (.t 24)⟩])
     (.seq (.ops [⟨(some 25), none, .move (.t 6)⟩,
       ⟨(some 26), none, .move (.t 4)⟩,
       ⟨(some 27), none, .nilCheck (.t 25)⟩,
       ⟨(some 28), none, .faddr 4 (.t 27)⟩,
       ⟨none, none, .store 1 (.t 28) (.t 26)⟩])
     (.draw [⟨false, [6], [], ⟨(some 29), none, .move (.t 6)⟩⟩,
       ⟨false, [29], [], ⟨(some 30), none, .nilCheck (.t 29)⟩⟩,
       ⟨false, [30], [], ⟨(some 31), none, .load (some 5) (.t 30)⟩⟩,
       ⟨false, [6], [], ⟨(some 32), none, .move (.t 6)⟩⟩,
       ⟨false, [32], [], ⟨(some 33), none, .nilCheck (.t 32)⟩⟩,
       ⟨false, [33], [], ⟨(some 34), none, .faddr 1 (.t 33)⟩⟩,
       ⟨false, [34], [], ⟨(some 35), none, .load none (.t 34)⟩⟩]
       [⟨(some 36), none, .call (.c (.fn (.func 106) [] [])) [(.t 31), (.t 35)]⟩,
       ⟨(some 4), none, .move (.t 36)⟩])))))
    (.ops [⟨(some 37), none, .bin .add (.t 16) (.c (.sc (.int .i64 (1))))⟩,
      ⟨(some 16), none, .move (.t 37)⟩])))))))
  (.seq (.ops [⟨(some 38), none, .move (.t 3)⟩,
    ⟨(some 2), none, .move (.t 38)⟩])
  (.ret))))),
  [.t 2]⟩
theorem ok52 : EntryOk Tryz.prog 52 af52 := ⟨Tryz.f52, _, Tryz.func52, by decide, rfl, by kernel_rfl, by kernel_rfl, rfl⟩
/-- hemiola/unfold.proper -/
noncomputable def af56 : AF := ⟨45, .seq (.ops [⟨(some 2), none, .box (.t 0)⟩,
    ⟨(some 4), none, .move (.c (.sc (.int .i64 (0))))⟩])
  (.seq (.seq (.ops [⟨(some 8), none, .load (some 6) (.t 2)⟩,
    ⟨(some 9), none, .call (.c (.fn (.func 29) [] [])) [(.t 8)]⟩,
    ⟨(some 10), none, .un .not (.t 9)⟩])
  (.cond (.t 10)
   (.seq (.ops [⟨(some 4), none, .move (.c (.sc (.int .i64 (24))))⟩])
   (.ret))
   (.skip)))
  (.seq (.seq (.ops [⟨(some 11), none, .move (.t 1)⟩,
    ⟨(some 12), none, .len (.t 11)⟩,
    ⟨(some 13), none, .bin .gtr (.t 12) (.c (.sc (.int .i64 (8192))))⟩])
  (.cond (.t 13)
   (.seq (.ops [⟨(some 4), none, .move (.c (.sc (.int .i64 (9))))⟩])
   (.ret))
   (.skip)))
  (.seq (.ops [⟨(some 14), none, .mkMap⟩,
    ⟨(some 5), none, .move (.t 14)⟩])
  (.seq (.seq (.ops [⟨(some 15), none, .move (.t 1)⟩,
    ⟨(some 16), none, .len (.t 15)⟩,
    ⟨(some 17), none, .move (.c (.sc (.int .i64 (0))))⟩])
  (.block 0 (.loop (.seq (.ops [⟨(some 18), none, .bin .lss (.t 17) (.t 16)⟩])
    (.seq (.cond (.t 18)
     (.skip)
     (.exit 0))
    (.seq (.block 1 (.seq (.ops [⟨(some 19), none, .iaddrS 2 (.t 15) (.t 17)⟩,
       ⟨(some 20), none, .load (some 2) (.t 19)⟩,
       ⟨(some 7), none, .alloc [(.sc (.int .i64 (0))), (.sc (.int .i64 (0)))]⟩,
       ⟨none, none, .store 2 (.t 7) (.t 20)⟩])
     (.seq (.seq (.ops [⟨(some 21), none, .faddr 0 (.t 7)⟩,
       ⟨(some 22), none, .load none (.t 21)⟩,
       ⟨(some 23), none, .bin .lss (.t 22) (.c (.sc (.int .i64 (0))))⟩,
       ⟨(some 24), none, .move (.t 23)⟩,
       ⟨(some 25), (some (24, false)), .faddr 0 (.t 7)⟩,
       ⟨(some 26), (some (24, false)), .load none (.t 25)⟩,
       ⟨(some 27), (some (24, false)), .faddr 3 (.t 2)⟩,
       ⟨(some 28), (some (24, false)), .load none (.t 27)⟩,
       ⟨(some 29), (some (24, false)), .len (.t 28)⟩,
       ⟨(some 30), (some (24, false)), .bin .geq (.t 26) (.t 29)⟩,
       ⟨(some 31), none, .pick (.t 24) (.c (.sc (.bool true))) (.t 30)⟩])
     (.cond (.t 31)
      (.seq (.ops [⟨(some 4), none, .move (.c (.sc (.int .i64 (2))))⟩])
      (.ret))
      (.skip)))
     (.seq (.seq (.ops [⟨(some 32), none, .faddr 1 (.t 7)⟩,
       ⟨(some 33), none, .load none (.t 32)⟩,
       ⟨(some 34), none, .move (.t 5)⟩,
       ⟨(some 35), none, .faddr 0 (.t 7)⟩,
       ⟨(some 36), none, .load none (.t 35)⟩,
       ⟨(some 37), none, .lookup [.i] false (.sc (.int .i64 (0))) (.t 34) (.t 36) false⟩,
       ⟨(some 38), none, .bin .neq (.t 33) (.t 37)⟩])
     (.cond (.t 38)
      (.seq (.ops [⟨(some 4), none, .move (.c (.sc (.int .i64 (38))))⟩])
      (.ret))
      (.skip)))
     (.ops [⟨(some 39), none, .move (.t 5)⟩,
       ⟨(some 40), none, .faddr 0 (.t 7)⟩,
       ⟨(some 41), none, .load none (.t 40)⟩,
       ⟨(some 42), none, .lookup [.i] false (.sc (.int .i64 (0))) (.t 39) (.t 41) false⟩,
       ⟨(some 43), none, .bin .add (.t 42) (.c (.sc (.int .i64 (1))))⟩,
       ⟨none, none, .mapUp [.i] false (.t 39) (.t 41) (.t 43)⟩])))))
    (.ops [⟨(some 44), none, .bin .add (.t 17) (.c (.sc (.int .i64 (1))))⟩,
      ⟨(some 17), none, .move (.t 44)⟩])))))))
  (.seq (.ops [⟨(some 4), none, .move (.c (.sc (.int .i64 (0))))⟩])
  (.ret)))))),
  [.t 4]⟩
theorem ok56 : EntryOk Tryz.prog 56 af56 := ⟨Tryz.f56, _, Tryz.func56, by decide, rfl, by kernel_rfl, by kernel_rfl, rfl⟩
/-- hemiola/ornament.Graces -/
noncomputable def af60 : AF := ⟨116, .seq (.ops [⟨(some 4), none, .box (.t 1)⟩,
    ⟨(some 6), none, .move (.c (.sl true .full 0 []))⟩,
    ⟨(some 7), none, .move (.c (.sc (.int .i64 (0))))⟩,
    ⟨(some 8), none, .move (.c (.sc (.int .i64 (0))))⟩])
  (.seq (.seq (.ops [⟨(some 20), none, .move (.t 0)⟩,
    ⟨(some 21), none, .len (.t 20)⟩,
    ⟨(some 22), none, .bin .gtr (.t 21) (.c (.sc (.int .i64 (8))))⟩])
  (.cond (.t 22)
   (.seq (.ops [⟨(some 6), none, .move (.c (.sl true .full 0 []))⟩,
     ⟨(some 7), none, .move (.c (.sc (.int .i64 (0))))⟩,
     ⟨(some 8), none, .move (.c (.sc (.int .i64 (9))))⟩])
   (.ret))
   (.skip)))
  (.seq (.seq (.ops [⟨(some 23), none, .move (.t 0)⟩,
    ⟨(some 24), none, .call (.c (.fn (.func 116) [] [])) [(.t 23)]⟩,
    ⟨(some 9), none, .move (.t 24)⟩])
  (.seq (.ops [⟨(some 25), none, .move (.t 9)⟩,
    ⟨(some 26), none, .bin .neq (.t 25) (.c (.sc (.int .i64 (0))))⟩])
  (.cond (.t 26)
   (.seq (.ops [⟨(some 27), none, .move (.t 9)⟩,
     ⟨(some 6), none, .move (.c (.sl true .full 0 []))⟩,
     ⟨(some 7), none, .move (.c (.sc (.int .i64 (0))))⟩,
     ⟨(some 8), none, .move (.t 27)⟩])
   (.ret))
   (.skip))))
  (.seq (.ops [⟨(some 29), none, .load (some 3) (.t 4)⟩,
    ⟨(some 30), none, .call (.c (.fn (.func 117) [] [])) [(.t 29)]⟩,
    ⟨(some 28), none, .move (.t 30)⟩,
    ⟨(some 31), none, .extract 0 (.t 28)⟩,
    ⟨(some 32), none, .extract 1 (.t 28)⟩,
    ⟨(some 10), none, .move (.t 31)⟩,
    ⟨(some 8), none, .move (.t 32)⟩])
  (.seq (.block 0 (.seq (.ops [⟨(some 34), none, .move (.t 8)⟩,
     ⟨(some 35), none, .bin .neq (.t 34) (.c (.sc (.int .i64 (0))))⟩,
     ⟨(some 33), none, .move (.t 35)⟩])
   (.cond (.t 33)
    (.seq (.ops [⟨(some 36), none, .move (.t 8)⟩,
      ⟨(some 6), none, .move (.c (.sl true .full 0 []))⟩,
      ⟨(some 7), none, .move (.c (.sc (.int .i64 (0))))⟩,
      ⟨(some 8), none, .move (.t 36)⟩])
    (.ret))
    (.seq (.ops [⟨(some 38), none, .move (.t 2)⟩,
      ⟨(some 39), none, .bin .lss (.t 38) (.c (.sc (.int .i64 (1))))⟩,
      ⟨(some 40), none, .move (.t 39)⟩,
      ⟨(some 41), (some (40, false)), .move (.t 2)⟩,
      ⟨(some 42), (some (40, false)), .bin .gtr (.t 41) (.c (.sc (.int .i64 (4398046511104))))⟩,
      ⟨(some 43), none, .pick (.t 40) (.c (.sc (.bool true))) (.t 42)⟩,
      ⟨(some 37), none, .move (.t 43)⟩])
    (.cond (.t 37)
     (.seq (.ops [⟨(some 6), none, .move (.c (.sl true .full 0 []))⟩,
       ⟨(some 7), none, .move (.c (.sc (.int .i64 (0))))⟩,
       ⟨(some 8), none, .move (.c (.sc (.int .i64 (2))))⟩])
     (.ret))
     (.skip))))))
  (.seq (.ops [⟨(some 44), none, .buildSl 1 [(.c (.sc (.int .i64 (0))))]⟩,
    ⟨(some 11), none, .move (.t 44)⟩])
  (.seq (.seq (.ops [⟨(some 45), none, .move (.t 0)⟩,
    ⟨(some 46), none, .len (.t 45)⟩,
    ⟨(some 47), none, .move (.c (.sc (.int .i64 (0))))⟩])
  (.block 1 (.loop (.seq (.ops [⟨(some 48), none, .bin .lss (.t 47) (.t 46)⟩])
    (.seq (.cond (.t 48)
     (.skip)
     (.exit 1))
    (.seq (.block 2 (.seq (.ops [⟨(some 49), none, .move (.t 47)⟩,
       ⟨(some 50), none, .iaddrS 5 (.t 45) (.t 47)⟩,
       ⟨(some 51), none, .load (some 5) (.t 50)⟩,
       ⟨(some 13), none, .alloc [(.sc (.int .i64 (0))), (.sc (.int .i64 (0))), (.sc (.int .i64 (0))), (.sc (.int .i64 (0))), (.sc (.bool false))]⟩,
       ⟨(some 12), none, .move (.t 49)⟩,
       ⟨none, none, .store 5 (.t 13) (.t 51)⟩])
     (.seq (.ops [⟨(some 52), none, .faddr 3 (.t 13)⟩,
       ⟨(some 53), none, .load none (.t 52)⟩,
       ⟨(some 54), none, .bin .shr (.c (.sc (.int .i64 (1935360)))) (.t 53)⟩,
       ⟨(some 14), none, .move (.t 54)⟩])
     (.seq (.seq (.ops [⟨(some 55), none, .faddr 4 (.t 13)⟩,
       ⟨(some 56), none, .load none (.t 55)⟩])
     (.cond (.t 56)
      (.ops [⟨(some 14), none, .move (.c (.sc (.int .i64 (30240))))⟩])
      (.skip)))
     (.ops [⟨(some 57), none, .move (.t 11)⟩,
       ⟨(some 58), none, .move (.t 11)⟩,
       ⟨(some 59), none, .move (.t 12)⟩,
       ⟨(some 60), none, .iaddrS 1 (.t 58) (.t 59)⟩,
       ⟨(some 61), none, .load none (.t 60)⟩,
       ⟨(some 62), none, .move (.t 14)⟩,
       ⟨(some 63), none, .bin .add (.t 61) (.t 62)⟩,
       ⟨(some 64), none, .buildSl 1 [(.t 63)]⟩,
       ⟨(some 65), none, .append 1 8 (.t 57) (.t 64)⟩,
       ⟨(some 11), none, .move (.t 65)⟩])))))
    (.ops [⟨(some 66), none, .bin .add (.t 47) (.c (.sc (.int .i64 (1))))⟩,
      ⟨(some 47), none, .move (.t 66)⟩])))))))
  (.seq (.ops [⟨(some 67), none, .move (.t 11)⟩,
    ⟨(some 68), none, .move (.t 0)⟩,
    ⟨(some 69), none, .len (.t 68)⟩,
    ⟨(some 70), none, .iaddrS 1 (.t 67) (.t 69)⟩,
    ⟨(some 71), none, .load none (.t 70)⟩,
    ⟨(some 15), none, .move (.t 71)⟩])
  (.seq (.ops [⟨(some 72), none, .move (.t 15)⟩,
    ⟨(some 73), none, .move (.t 2)⟩,
    ⟨(some 74), none, .bin .quo (.t 73) (.c (.sc (.int .i64 (2))))⟩,
    ⟨(some 75), none, .mm false [(.t 72), (.t 74)]⟩,
    ⟨(some 7), none, .move (.t 75)⟩])
  (.seq (.seq (.ops [⟨(some 76), none, .move (.t 0)⟩,
    ⟨(some 77), none, .len (.t 76)⟩,
    ⟨(some 78), none, .move (.c (.sc (.int .i64 (0))))⟩])
  (.block 3 (.loop (.seq (.ops [⟨(some 79), none, .bin .lss (.t 78) (.t 77)⟩])
    (.seq (.cond (.t 79)
     (.skip)
     (.exit 3))
    (.seq (.block 4 (.seq (.ops [⟨(some 80), none, .move (.t 78)⟩,
       ⟨(some 81), none, .iaddrS 5 (.t 76) (.t 78)⟩,
       ⟨(some 82), none, .load (some 5) (.t 81)⟩,
       ⟨(some 17), none, .alloc [(.sc (.int .i64 (0))), (.sc (.int .i64 (0))), (.sc (.int .i64 (0))), (.sc (.int .i64 (0))), (.sc (.bool false))]⟩,
       ⟨(some 16), none, .move (.t 80)⟩,
       ⟨none, none, .store 5 (.t 17) (.t 82)⟩])
     (.seq (.ops [⟨(some 84), none, .faddr 0 (.t 17)⟩,
       ⟨(some 85), none, .load (some 3) (.t 84)⟩,
       ⟨(some 86), none, .call (.c (.fn (.func 117) [] [])) [(.t 85)]⟩,
       ⟨(some 83), none, .move (.t 86)⟩,
       ⟨(some 87), none, .extract 0 (.t 83)⟩,
       ⟨(some 88), none, .extract 1 (.t 83)⟩,
       ⟨(some 18), none, .move (.t 87)⟩,
       ⟨(some 19), none, .move (.t 88)⟩])
     (.draw [⟨false, [6], [], ⟨(some 89), none, .move (.t 6)⟩⟩,
       ⟨false, [11], [], ⟨(some 90), none, .move (.t 11)⟩⟩,
       ⟨false, [16], [], ⟨(some 91), none, .move (.t 16)⟩⟩,
       ⟨false, [90, 91], [], ⟨(some 92), none, .iaddrS 1 (.t 90) (.t 91)⟩⟩,
       ⟨false, [92], [], ⟨(some 93), none, .load none (.t 92)⟩⟩,
       ⟨false, [7], [], ⟨(some 94), none, .move (.t 7)⟩⟩,
       ⟨false, [93, 94], [], ⟨(some 95), none, .bin .mul (.t 93) (.t 94)⟩⟩,
       ⟨false, [15], [], ⟨(some 96), none, .move (.t 15)⟩⟩,
       ⟨false, [95, 96], [], ⟨(some 97), none, .bin .quo (.t 95) (.t 96)⟩⟩,
       ⟨false, [11], [], ⟨(some 98), none, .move (.t 11)⟩⟩,
       ⟨false, [16], [], ⟨(some 99), none, .move (.t 16)⟩⟩,
       ⟨false, [99], [], ⟨(some 100), none, .bin .add (.t 99) (.c (.sc (.int .i64 (1))))⟩⟩,
       ⟨false, [98, 100], [], ⟨(some 101), none, .iaddrS 1 (.t 98) (.t 100)⟩⟩,
       ⟨false, [101], [], ⟨(some 102), none, .load none (.t 101)⟩⟩,
       ⟨false, [7], [], ⟨(some 103), none, .move (.t 7)⟩⟩,
       ⟨false, [102, 103], [], ⟨(some 104), none, .bin .mul (.t 102) (.t 103)⟩⟩,
       ⟨false, [15], [], ⟨(some 105), none, .move (.t 15)⟩⟩,
       ⟨false, [104, 105], [], ⟨(some 106), none, .bin .quo (.t 104) (.t 105)⟩⟩,
       ⟨false, [18], [], ⟨(some 107), none, .move (.t 18)⟩⟩,
       ⟨false, [10], [], ⟨(some 108), none, .move (.t 10)⟩⟩,
       ⟨false, [107, 108], [], ⟨(some 109), none, .bin .sub (.t 107) (.t 108)⟩⟩,
       ⟨true, [97, 106, 109], [], ⟨(some 110), none, .build [(.sc (.int .i64 (0))), (.sc (.int .i64 (0))), (.sc (.int .i64 (0)))] [((0, 1), (.t 97)), ((1, 1), (.t 106)), ((2, 1), (.t 109))]⟩⟩,
       ⟨true, [110], [], ⟨(some 111), none, .buildSl 3 [(.t 110)]⟩⟩]
       [⟨(some 112), none, .append 3 24 (.t 89) (.t 111)⟩,
       ⟨(some 6), none, .move (.t 112)⟩]))))
    (.ops [⟨(some 113), none, .bin .add (.t 78) (.c (.sc (.int .i64 (1))))⟩,
      ⟨(some 78), none, .move (.t 113)⟩])))))))
  (.seq (.ops [⟨(some 114), none, .move (.t 6)⟩,
    ⟨(some 115), none, .move (.t 7)⟩,
    ⟨(some 6), none, .move (.t 114)⟩,
    ⟨(some 7), none, .move (.t 115)⟩,
    ⟨(some 8), none, .move (.c (.sc (.int .i64 (0))))⟩])
  (.ret))))))))))),
  [.t 6, .t 7, .t 8]⟩
theorem ok60 : EntryOk Tryz.prog 60 af60 := ⟨Tryz.f60, _, Tryz.func60, by decide, rfl, by kernel_rfl, by kernel_rfl, rfl⟩
/-- hemiola/perform.value -/
noncomputable def af64 : AF := ⟨14, .seq (.ops [⟨(some 2), none, .move (.c (.sc (.int .i64 (0))))⟩,
    ⟨(some 3), none, .move (.c (.sc (.bool false)))⟩])
  (.seq (.ops [⟨(some 4), none, .move (.t 0)⟩,
    ⟨(some 5), none, .bin .sub (.t 4) (.c (.sc (.int .i64 (1))))⟩,
    ⟨(some 6), none, .bin .mul (.c (.sc (.int .i64 (14)))) (.t 5)⟩,
    ⟨(some 7), none, .bin .add (.c (.sc (.int .i64 (20)))) (.t 6)⟩,
    ⟨(some 8), none, .move (.t 0)⟩,
    ⟨(some 9), none, .bin .geq (.t 8) (.c (.sc (.int .i64 (1))))⟩,
    ⟨(some 10), none, .move (.t 9)⟩,
    ⟨(some 11), (some (10, true)), .move (.t 0)⟩,
    ⟨(some 12), (some (10, true)), .bin .leq (.t 11) (.c (.sc (.int .i64 (8))))⟩,
    ⟨(some 13), none, .pick (.t 10) (.t 12) (.c (.sc (.bool false)))⟩,
    ⟨(some 2), none, .move (.t 7)⟩,
    ⟨(some 3), none, .move (.t 13)⟩])
  (.ret)),
  [.t 2, .t 3]⟩
theorem ok64 : EntryOk Tryz.prog 64 af64 := ⟨Tryz.f64, _, Tryz.func64, by decide, rfl, by kernel_rfl, by kernel_rfl, rfl⟩
/-- sort.Search -/
noncomputable def af70 : AF := ⟨26, .seq (.ops [⟨(some 4), none, .move (.c (.sc (.int .i64 (0))))⟩])
  (.seq (.ops [⟨(some 8), none, .move (.t 0)⟩,
    ⟨(some 5), none, .move (.c (.sc (.int .i64 (0))))⟩,
    ⟨(some 6), none, .move (.t 8)⟩])
  (.seq (.block 0 (.loop (.seq (.seq (.ops [⟨(some 9), none, .move (.t 5)⟩,
      ⟨(some 10), none, .move (.t 6)⟩,
      ⟨(some 11), none, .bin .lss (.t 9) (.t 10)⟩])
    (.cond (.t 11)
     (.skip)
     (.exit 0)))
    (.block 1 (.seq (.ops [⟨(some 12), none, .move (.t 5)⟩,
       ⟨(some 13), none, .move (.t 6)⟩,
       ⟨(some 14), none, .bin .add (.t 12) (.t 13)⟩,
       ⟨(some 15), none, .convI .u64 (.t 14)⟩,
       ⟨(some 16), none, .bin .shr (.t 15) (.c (.sc (.int .u64 (1))))⟩,
       ⟨(some 17), none, .convI .i64 (.t 16)⟩,
       ⟨(some 7), none, .move (.t 17)⟩])
     (.seq (.ops [⟨(some 18), none, .move (.t 1)⟩,
       ⟨(some 19), none, .move (.t 7)⟩,
       ⟨(some 20), none, .call (.t 18) [(.t 19)]⟩,
       ⟨(some 21), none, .un .not (.t 20)⟩])
     (.cond (.t 21)
      (.ops [⟨(some 22), none, .move (.t 7)⟩,
        ⟨(some 23), none, .bin .add (.t 22) (.c (.sc (.int .i64 (1))))⟩,
        ⟨(some 5), none, .move (.t 23)⟩])
      (.ops [⟨(some 24), none, .move (.t 7)⟩,
        ⟨(some 6), none, .move (.t 24)⟩]))))))))
  (.seq (.ops [⟨(some 25), none, .move (.t 5)⟩,
    ⟨(some 4), none, .move (.t 25)⟩])
  (.ret)))),
  [.t 4]⟩
theorem ok70 : EntryOk Tryz.prog 70 af70 := ⟨Tryz.f70, _, Tryz.func70, by decide, rfl, by kernel_rfl, by kernel_rfl, rfl⟩
/-- (*hemiola/check.checker).ids -/
noncomputable def af76 : AF := ⟨86, .seq (.ops [⟨(some 8), none, .mkMap⟩,
    ⟨(some 2), none, .move (.t 8)⟩])
  (.seq (.seq (.ops [⟨(some 9), none, .move (.t 0)⟩,
    ⟨(some 10), none, .nilCheck (.t 9)⟩,
    ⟨(some 11), none, .faddr 0 (.t 10)⟩,
    ⟨(some 12), none, .load (some 6) (.t 11)⟩,
    ⟨(some 13), none, .call (.c (.fn (.func 133) [] [])) [(.t 12)]⟩,
    ⟨(some 14), none, .len (.t 13)⟩,
    ⟨(some 15), none, .move (.c (.sc (.int .i64 (0))))⟩])
  (.block 0 (.loop (.seq (.ops [⟨(some 16), none, .bin .lss (.t 15) (.t 14)⟩])
    (.seq (.cond (.t 16)
     (.skip)
     (.exit 0))
    (.seq (.block 1 (.seq (.ops [⟨(some 17), none, .iaddrS 2 (.t 13) (.t 15)⟩,
       ⟨(some 18), none, .load (some 2) (.t 17)⟩,
       ⟨(some 4), none, .alloc [(.sc (.int .i64 (0))), (.sc (.int .i64 (0)))]⟩,
       ⟨none, none, .store 2 (.t 4) (.t 18)⟩])
     (.seq (.draw [⟨false, [0], [], ⟨(some 19), none, .move (.t 0)⟩⟩,
       ⟨false, [4], [], ⟨(some 20), none, .load (some 2) (.t 4)⟩⟩,
       ⟨true, [20], [], ⟨(some 21), none, .call (.c (.fn (.func 134) [] [])) [(.t 20)]⟩⟩,
       ⟨false, [21], [], ⟨(some 22), none, .un .not (.t 21)⟩⟩,
       ⟨false, [22], [], ⟨(some 23), none, .move (.t 22)⟩⟩,
       ⟨false, [2, 23], [], ⟨(some 24), (some (23, false)), .move (.t 2)⟩⟩,
       ⟨false, [4, 23], [], ⟨(some 25), (some (23, false)), .load (some 2) (.t 4)⟩⟩,
       ⟨true, [24, 25, 23], [], ⟨(some 26), (some (23, false)), .lookup [.i, .i] true (.sc (.bool false)) (.t 24) (.t 25) false⟩⟩,
       ⟨false, [23, 26], [], ⟨(some 27), none, .pick (.t 23) (.c (.sc (.bool true))) (.t 26)⟩⟩,
       ⟨false, [27], [], ⟨(some 28), none, .move (.t 27)⟩⟩,
       ⟨false, [4, 28], [], ⟨(some 29), (some (28, false)), .faddr 1 (.t 4)⟩⟩,
       ⟨false, [29, 28], [18], ⟨(some 30), (some (28, false)), .load none (.t 29)⟩⟩,
       ⟨false, [0, 28], [], ⟨(some 31), (some (28, false)), .move (.t 0)⟩⟩,
       ⟨false, [31, 28], [], ⟨(some 32), (some (28, false)), .nilCheck (.t 31)⟩⟩,
       ⟨false, [32, 28], [], ⟨(some 33), (some (28, false)), .faddr 0 (.t 32)⟩⟩,
       ⟨false, [33, 28], [], ⟨(some 34), (some (28, false)), .load (some 6) (.t 33)⟩⟩,
       ⟨false, [4, 28], [], ⟨(some 35), (some (28, false)), .faddr 0 (.t 4)⟩⟩,
       ⟨false, [35, 28], [], ⟨(some 36), (some (28, false)), .load none (.t 35)⟩⟩,
       ⟨true, [34, 36, 28], [], ⟨(some 37), (some (28, false)), .call (.c (.fn (.func 135) [] [])) [(.t 34), (.t 36)]⟩⟩,
       ⟨false, [30, 37, 28], [], ⟨(some 38), (some (28, false)), .bin .gtr (.t 30) (.t 37)⟩⟩,
       ⟨false, [28, 38], [], ⟨(some 39), none, .pick (.t 28) (.c (.sc (.bool true))) (.t 38)⟩⟩,
       ⟨false, [4], [2, 7, 18], ⟨(some 40), none, .load (some 2) (.t 4)⟩⟩]
       [⟨(some 41), none, .call (.c (.fn (.func 129) [] [])) [(.t 19), (.t 39), (.t 40)]⟩])
     (.ops [⟨(some 42), none, .move (.t 2)⟩,
       ⟨(some 43), none, .load (some 2) (.t 4)⟩,
       ⟨none, none, .mapUp [.i, .i] true (.t 42) (.t 43) (.c (.sc (.bool true)))⟩]))))
    (.ops [⟨(some 44), none, .bin .add (.t 15) (.c (.sc (.int .i64 (1))))⟩,
      ⟨(some 15), none, .move (.t 44)⟩])))))))
  (.seq (.ops [⟨(some 5), none, .move (.c (.sc (.bool false)))⟩])
  (.seq (.seq (.ops [⟨(some 45), none, .move (.t 0)⟩,
    ⟨(some 46), none, .nilCheck (.t 45)⟩,
    ⟨(some 47), none, .faddr 0 (.t 46)⟩,
    ⟨(some 48), none, .faddr 5 (.t 47)⟩,
    ⟨(some 49), none, .load none (.t 48)⟩,
    ⟨(some 50), none, .len (.t 49)⟩,
    ⟨(some 51), none, .move (.c (.sc (.int .i64 (0))))⟩])
  (.block 2 (.loop (.seq (.ops [⟨(some 52), none, .bin .lss (.t 51) (.t 50)⟩])
    (.seq (.cond (.t 52)
     (.skip)
     (.exit 2))
    (.seq (.block 3 (.seq (.ops [⟨(some 53), none, .move (.t 51)⟩,
       ⟨(some 54), none, .iaddrS 2 (.t 49) (.t 51)⟩,
       ⟨(some 55), none, .load (some 2) (.t 54)⟩,
       ⟨(some 7), none, .alloc [(.sc (.int .i64 (0))), (.sc (.int .i64 (0)))]⟩,
       ⟨(some 6), none, .move (.t 53)⟩,
       ⟨none, none, .store 2 (.t 7) (.t 55)⟩])
     (.draw [⟨true, [5], [], ⟨(some 56), none, .move (.t 5)⟩⟩,
       ⟨true, [56], [], ⟨(some 57), none, .move (.t 56)⟩⟩,
       ⟨true, [7, 57], [], ⟨(some 58), (some (57, false)), .load (some 2) (.t 7)⟩⟩,
       ⟨true, [58, 57], [], ⟨(some 59), (some (57, false)), .call (.c (.fn (.func 134) [] [])) [(.t 58)]⟩⟩,
       ⟨true, [59, 57], [], ⟨(some 60), (some (57, false)), .un .not (.t 59)⟩⟩,
       ⟨true, [57, 60], [], ⟨(some 61), none, .pick (.t 57) (.c (.sc (.bool true))) (.t 60)⟩⟩,
       ⟨true, [61], [], ⟨(some 62), none, .move (.t 61)⟩⟩,
       ⟨true, [6, 62], [], ⟨(some 63), (some (62, false)), .move (.t 6)⟩⟩,
       ⟨true, [63, 62], [], ⟨(some 64), (some (62, false)), .bin .gtr (.t 63) (.c (.sc (.int .i64 (0))))⟩⟩,
       ⟨true, [64, 62], [], ⟨(some 65), (some (62, false)), .move (.t 64)⟩⟩,
       ⟨false, [7, 65], [], ⟨(some 66), (some (65, true)), .faddr 0 (.t 7)⟩⟩,
       ⟨false, [66, 65], [], ⟨(some 67), (some (65, true)), .load none (.t 66)⟩⟩,
       ⟨false, [0, 65], [], ⟨(some 68), (some (65, true)), .move (.t 0)⟩⟩,
       ⟨false, [68, 65], [], ⟨(some 69), (some (65, true)), .nilCheck (.t 68)⟩⟩,
       ⟨false, [69, 65], [], ⟨(some 70), (some (65, true)), .faddr 0 (.t 69)⟩⟩,
       ⟨false, [70, 65], [], ⟨(some 71), (some (65, true)), .faddr 5 (.t 70)⟩⟩,
       ⟨false, [71, 65], [], ⟨(some 72), (some (65, true)), .load none (.t 71)⟩⟩,
       ⟨false, [6, 65], [], ⟨(some 73), (some (65, true)), .move (.t 6)⟩⟩,
       ⟨false, [73, 65], [], ⟨(some 74), (some (65, true)), .bin .sub (.t 73) (.c (.sc (.int .i64 (1))))⟩⟩,
       ⟨false, [72, 74, 65], [], ⟨(some 75), (some (65, true)), .iaddrS 2 (.t 72) (.t 74)⟩⟩,
       ⟨false, [75, 65], [], ⟨(some 76), (some (65, true)), .faddr 0 (.t 75)⟩⟩,
       ⟨false, [76, 65], [], ⟨(some 77), (some (65, true)), .load none (.t 76)⟩⟩]
       [⟨(some 78), (some (65, true)), .bin .leq (.t 67) (.t 77)⟩,
       ⟨(some 79), (some (62, false)), .pick (.t 65) (.t 78) (.c (.sc (.bool false)))⟩,
       ⟨(some 80), none, .pick (.t 62) (.c (.sc (.bool true))) (.t 79)⟩,
       ⟨(some 5), none, .move (.t 80)⟩])))
    (.ops [⟨(some 81), none, .bin .add (.t 51) (.c (.sc (.int .i64 (1))))⟩,
      ⟨(some 51), none, .move (.t 81)⟩])))))))
  (.ops [⟨(some 82), none, .move (.t 0)⟩,
    ⟨(some 83), none, .move (.t 5)⟩,
    ⟨(some 84), none, .build [(.sc (.int .i64 (0))), (.sc (.int .i64 (0)))] []⟩,
    ⟨(some 85), none, .call (.c (.fn (.func 129) [] [])) [(.t 82), (.t 83), (.t 84)]⟩])))),
  []⟩
theorem ok76 : EntryOk Tryz.prog 76 af76 := ⟨Tryz.f76, _, Tryz.func76, by decide, rfl, by kernel_rfl, by kernel_rfl, rfl⟩
/-- (*hemiola/check.checker).voices -/
noncomputable def af80 : AF := ⟨4, .ops [⟨(some 2), none, .move (.t 0)⟩,
    ⟨(some 3), none, .call (.c (.fn (.func 141) [] [])) [(.t 2), (.c (.fn (.func 142) [] []))]⟩],
  []⟩
theorem ok80 : EntryOk Tryz.prog 80 af80 := ⟨Tryz.f80, _, Tryz.func80, by decide, rfl, by kernel_rfl, by kernel_rfl, rfl⟩
/-- (*hemiola/check.checker).ties -/
noncomputable def af84 : AF := ⟨5, .seq (.ops [⟨(some 1), none, .box (.t 0)⟩])
  (.ops [⟨(some 2), none, .load none (.t 1)⟩,
    ⟨(some 3), none, .mkFn (.func 153) [] [(.t 1)]⟩,
    ⟨(some 4), none, .call (.c (.fn (.func 144) [] [])) [(.t 2), (.t 3)]⟩]),
  []⟩
theorem ok84 : EntryOk Tryz.prog 84 af84 := ⟨Tryz.f84, _, Tryz.func84, by decide, rfl, by kernel_rfl, by kernel_rfl, rfl⟩
/-- (*hemiola/check.checker).repeats -/
noncomputable def af88 : AF := ⟨80, .seq (.ops [⟨(some 8), none, .move (.t 0)⟩,
    ⟨(some 9), none, .nilCheck (.t 8)⟩,
    ⟨(some 10), none, .faddr 7 (.t 9)⟩,
    ⟨(some 11), none, .load none (.t 10)⟩,
    ⟨(some 12), none, .len (.t 11)⟩,
    ⟨(some 2), none, .move (.t 12)⟩])
  (.seq (.ops [⟨(some 13), none, .move (.t 0)⟩,
    ⟨(some 14), none, .call (.c (.fn (.func 136) [] [])) [(.t 13), (.c (.fn (.func 162) [] []))]⟩])
  (.seq (.seq (.ops [⟨(some 15), none, .move (.t 0)⟩,
    ⟨(some 16), none, .nilCheck (.t 15)⟩,
    ⟨(some 17), none, .faddr 7 (.t 16)⟩,
    ⟨(some 18), none, .load none (.t 17)⟩,
    ⟨(some 19), none, .len (.t 18)⟩,
    ⟨(some 20), none, .move (.t 2)⟩,
    ⟨(some 21), none, .bin .gtr (.t 19) (.t 20)⟩])
  (.cond (.t 21)
   (.ret)
   (.skip)))
  (.seq (.ops [⟨(some 3), none, .alloc [(.sc (.bool false)), (.sc (.int .i64 (0))), (.sc (.int .i64 (0))), (.sc (.int .i64 (0))), (.sc (.bool false)), (.sc (.int .i64 (0)))]⟩])
  (.seq (.ops [⟨(some 4), none, .move (.c (.sc (.bool true)))⟩])
  (.seq (.seq (.ops [⟨(some 22), none, .move (.t 0)⟩,
    ⟨(some 23), none, .nilCheck (.t 22)⟩,
    ⟨(some 24), none, .faddr 0 (.t 23)⟩,
    ⟨(some 25), none, .faddr 3 (.t 24)⟩,
    ⟨(some 26), none, .load none (.t 25)⟩,
    ⟨(some 27), none, .len (.t 26)⟩,
    ⟨(some 28), none, .move (.c (.sc (.int .i64 (0))))⟩])
  (.block 0 (.loop (.seq (.ops [⟨(some 29), none, .bin .lss (.t 28) (.t 27)⟩])
    (.seq (.cond (.t 29)
     (.skip)
     (.exit 0))
    (.seq (.block 1 (.seq (.ops [⟨(some 30), none, .iaddrS 22 (.t 26) (.t 28)⟩,
       ⟨(some 31), none, .load (some 22) (.t 30)⟩,
       ⟨(some 6), none, .alloc [(.sc (.int .i64 (0))), (.sc (.int .i64 (0))), (.sc (.int .i64 (0))), (.sc (.int .i64 (0))), (.sc (.int .i64 (0))), (.sc (.int .i64 (0))), (.sc (.int .i64 (0))), (.sc (.int .i64 (0))), (.sc (.int .i64 (0))), (.sc (.int .i64 (0))), (.sc (.int .i64 (0))), (.sc (.int .i64 (0))), (.sc (.bool false)), (.sc (.int .i64 (0))), (.sc (.int .i64 (0))), (.sc (.int .i64 (0))), (.sc (.int .i64 (0))), (.sc (.int .i64 (0))), (.sc (.int .i64 (0))), (.sc (.string ⟨#[]⟩)), (.sl true .full 0 []), (.sl true .full 0 [])]⟩,
       ⟨none, none, .store 22 (.t 6) (.t 31)⟩])
     (.seq (.ops [⟨(some 33), none, .load (some 6) (.t 3)⟩,
       ⟨(some 34), none, .load (some 22) (.t 6)⟩,
       ⟨(some 35), none, .call (.c (.fn (.func 163) [] [])) [(.t 33), (.t 34)]⟩,
       ⟨(some 32), none, .move (.t 35)⟩,
       ⟨(some 36), none, .extract 0 (.t 32)⟩,
       ⟨(some 37), none, .extract 1 (.t 32)⟩,
       ⟨none, none, .store 6 (.t 3) (.t 36)⟩,
       ⟨(some 4), none, .move (.t 37)⟩])
     (.seq (.ops [⟨(some 38), none, .move (.t 4)⟩,
       ⟨(some 39), none, .un .not (.t 38)⟩])
     (.cond (.t 39)
      (.seq (.ops [⟨(some 40), none, .move (.t 0)⟩,
        ⟨(some 41), none, .faddr 0 (.t 6)⟩,
        ⟨(some 42), none, .load (some 2) (.t 41)⟩,
        ⟨(some 43), none, .call (.c (.fn (.func 129) [] [])) [(.t 40), (.c (.sc (.bool true))), (.t 42)]⟩])
      (.ret))
      (.skip))))))
    (.ops [⟨(some 44), none, .bin .add (.t 28) (.c (.sc (.int .i64 (1))))⟩,
      ⟨(some 28), none, .move (.t 44)⟩])))))))
  (.seq (.ops [⟨(some 45), none, .faddr 0 (.t 3)⟩,
    ⟨(some 46), none, .load none (.t 45)⟩,
    ⟨(some 47), none, .move (.t 46)⟩,
    ⟨(some 48), (some (47, true)), .faddr 3 (.t 3)⟩,
    ⟨(some 49), (some (47, true)), .load none (.t 48)⟩,
    ⟨(some 50), (some (47, true)), .bin .eql (.t 49) (.c (.sc (.int .i64 (0))))⟩,
    ⟨(some 51), none, .pick (.t 47) (.t 50) (.c (.sc (.bool false)))⟩,
    ⟨(some 52), none, .move (.t 51)⟩,
    ⟨(some 53), (some (52, false)), .faddr 3 (.t 3)⟩,
    ⟨(some 54), (some (52, false)), .load none (.t 53)⟩,
    ⟨(some 55), (some (52, false)), .bin .neq (.t 54) (.c (.sc (.int .i64 (0))))⟩,
    ⟨(some 56), (some (52, false)), .move (.t 55)⟩,
    ⟨(some 57), (some (56, true)), .load (some 6) (.t 3)⟩,
    ⟨(some 58), (some (56, true)), .call (.c (.fn (.func 164) [] [])) [(.t 57)]⟩,
    ⟨(some 59), (some (56, true)), .un .not (.t 58)⟩,
    ⟨(some 60), (some (52, false)), .pick (.t 56) (.t 59) (.c (.sc (.bool false)))⟩,
    ⟨(some 61), none, .pick (.t 52) (.c (.sc (.bool true))) (.t 60)⟩,
    ⟨(some 7), none, .move (.t 61)⟩])
  (.draw [⟨false, [0], [], ⟨(some 62), none, .move (.t 0)⟩⟩,
    ⟨false, [7], [], ⟨(some 63), none, .move (.t 7)⟩⟩,
    ⟨false, [0], [], ⟨(some 64), none, .move (.t 0)⟩⟩,
    ⟨false, [64], [], ⟨(some 65), none, .nilCheck (.t 64)⟩⟩,
    ⟨false, [65], [], ⟨(some 66), none, .faddr 0 (.t 65)⟩⟩,
    ⟨false, [66], [], ⟨(some 67), none, .faddr 3 (.t 66)⟩⟩,
    ⟨false, [67], [], ⟨(some 68), none, .load none (.t 67)⟩⟩,
    ⟨false, [0], [], ⟨(some 69), none, .move (.t 0)⟩⟩,
    ⟨false, [69], [], ⟨(some 70), none, .nilCheck (.t 69)⟩⟩,
    ⟨false, [70], [], ⟨(some 71), none, .faddr 0 (.t 70)⟩⟩,
    ⟨false, [71], [], ⟨(some 72), none, .faddr 3 (.t 71)⟩⟩,
    ⟨false, [72], [], ⟨(some 73), none, .load none (.t 72)⟩⟩,
    ⟨false, [73], [], ⟨(some 74), none, .len (.t 73)⟩⟩,
    ⟨false, [74], [], ⟨(some 75), none, .bin .sub (.t 74) (.c (.sc (.int .i64 (1))))⟩⟩,
    ⟨true, [68, 75], [], ⟨(some 76), none, .iaddrS 22 (.t 68) (.t 75)⟩⟩,
    ⟨true, [76], [], ⟨(some 77), none, .faddr 0 (.t 76)⟩⟩,
    ⟨true, [77], [], ⟨(some 78), none, .load (some 2) (.t 77)⟩⟩]
    [⟨(some 79), none, .call (.c (.fn (.func 129) [] [])) [(.t 62), (.t 63), (.t 78)]⟩]))))))),
  []⟩
theorem ok88 : EntryOk Tryz.prog 88 af88 := ⟨Tryz.f88, _, Tryz.func88, by decide, rfl, by kernel_rfl, by kernel_rfl, rfl⟩
/-- hemiola/unfold.order$1 -/
noncomputable def af92 : AF := ⟨43, .seq (.ops [⟨(some 2), none, .box (.t 0)⟩])
  (.seq (.ops [⟨(some 9), none, .load (some 6) (.t 1)⟩,
    ⟨(some 10), none, .call (.c (.fn (.func 93) [] [])) [(.t 9)]⟩,
    ⟨(some 3), none, .alloc [(.sl true .full 0 [])]⟩,
    ⟨none, none, .store 1 (.t 3) (.t 10)⟩])
  (.seq (.ops [⟨(some 11), none, .load none (.t 3)⟩,
    ⟨(some 12), none, .len (.t 11)⟩,
    ⟨(some 13), none, .move (.c (.sc (.int .i64 (0))))⟩])
  (.block 0 (.loop (.seq (.ops [⟨(some 14), none, .bin .lss (.t 13) (.t 12)⟩])
    (.seq (.cond (.t 14)
     (.skip)
     (.exit 0))
    (.seq (.block 1 (.seq (.ops [⟨(some 15), none, .iaddrS 4 (.t 11) (.t 13)⟩,
       ⟨(some 16), none, .load (some 4) (.t 15)⟩,
       ⟨(some 5), none, .alloc [(.sc (.int .i64 (0))), (.sc (.int .i64 (0))), (.sl true .full 0 []), (.sc (.int .i64 (0)))]⟩,
       ⟨none, none, .store 4 (.t 5) (.t 16)⟩])
     (.seq (.ops [⟨(some 17), none, .load (some 4) (.t 5)⟩,
       ⟨(some 18), none, .call (.c (.fn (.func 94) [] [])) [(.t 17)]⟩])
     (.block 2 (.range (.t 18) #[19, 20]
       (.seq (.ops [⟨(some 6), none, .move (.t 19)⟩])
       (.ops [⟨(some 7), none, .move (.t 20)⟩]))
       (.block 3 (.seq (.seq (.ops [⟨(some 21), none, .load none (.t 2)⟩,
          ⟨(some 22), none, .move (.t 6)⟩,
          ⟨(some 23), none, .call (.t 21) [(.t 22)]⟩,
          ⟨(some 24), none, .un .not (.t 23)⟩])
        (.cond (.t 24)
         (.ret)
         (.skip)))
        (.seq (.ops [⟨(some 25), none, .faddr 3 (.t 1)⟩,
          ⟨(some 26), none, .load none (.t 25)⟩,
          ⟨(some 27), none, .move (.t 6)⟩,
          ⟨(some 28), none, .iaddrS 22 (.t 26) (.t 27)⟩,
          ⟨(some 29), none, .faddr 15 (.t 28)⟩,
          ⟨(some 30), none, .load none (.t 29)⟩,
          ⟨(some 8), none, .move (.t 30)⟩])
        (.seq (.ops [⟨(some 31), none, .move (.t 8)⟩,
          ⟨(some 32), none, .bin .neq (.t 31) (.c (.sc (.int .i64 (0))))⟩,
          ⟨(some 33), none, .move (.t 32)⟩,
          ⟨(some 34), (some (33, true)), .move (.t 7)⟩,
          ⟨(some 35), none, .pick (.t 33) (.t 34) (.c (.sc (.bool false)))⟩])
        (.cond (.t 35)
         (.seq (.draw [⟨false, [1], [], ⟨(some 36), none, .load (some 6) (.t 1)⟩⟩,
           ⟨false, [3], [], ⟨(some 37), none, .load none (.t 3)⟩⟩,
           ⟨false, [8], [], ⟨(some 38), none, .move (.t 8)⟩⟩,
           ⟨true, [36, 37, 38], [], ⟨(some 39), none, .call (.c (.fn (.func 95) [] [])) [(.t 36), (.t 37), (.t 38)]⟩⟩,
           ⟨false, [2], [3], ⟨(some 40), none, .load none (.t 2)⟩⟩]
           [⟨(some 41), none, .call (.t 39) [(.t 40)]⟩])
         (.ret))
         (.skip))))))
       (codeAt (Tryz.f92.body.getD .skip) [1, 1, 1, 0, 0, 1, 1, 0, 0, 1, 1, 0, 0]) (codeAt (Tryz.f92.body.getD .skip) [1, 1, 1, 0, 0, 1, 1, 0, 0, 1, 1, 0, 1]))))))
    (.ops [⟨(some 42), none, .bin .add (.t 13) (.c (.sc (.int .i64 (1))))⟩,
      ⟨(some 13), none, .move (.t 42)⟩])))))))),
  []⟩
theorem ok92 : EntryOk Tryz.prog 92 af92 := ⟨Tryz.f92, _, Tryz.func92, by decide, rfl, by kernel_rfl, by kernel_rfl, rfl⟩
/-- hemiola/score.Staves -/
noncomputable def af97 : AF := ⟨20, .seq (.ops [⟨(some 1), none, .box (.t 0)⟩,
    ⟨(some 2), none, .move (.c (.sc (.int .i64 (0))))⟩])
  (.seq (.ops [⟨(some 3), none, .move (.c (.sc (.int .i64 (0))))⟩])
  (.seq (.seq (.ops [⟨(some 6), none, .faddr 2 (.t 1)⟩,
    ⟨(some 7), none, .load none (.t 6)⟩,
    ⟨(some 8), none, .len (.t 7)⟩,
    ⟨(some 9), none, .move (.c (.sc (.int .i64 (0))))⟩])
  (.block 0 (.loop (.seq (.ops [⟨(some 10), none, .bin .lss (.t 9) (.t 8)⟩])
    (.seq (.cond (.t 10)
     (.skip)
     (.exit 0))
    (.seq (.block 1 (.seq (.ops [⟨(some 11), none, .iaddrS 6 (.t 7) (.t 9)⟩,
       ⟨(some 12), none, .load (some 6) (.t 11)⟩,
       ⟨(some 5), none, .alloc [(.sc (.int .i64 (0))), (.sc (.int .i64 (0))), (.sc (.string ⟨#[]⟩)), (.sc (.int .i64 (0))), (.sc (.int .i64 (0))), (.sl true .full 0 [])]⟩,
       ⟨none, none, .store 6 (.t 5) (.t 12)⟩])
     (.ops [⟨(some 13), none, .move (.t 3)⟩,
       ⟨(some 14), none, .faddr 5 (.t 5)⟩,
       ⟨(some 15), none, .load none (.t 14)⟩,
       ⟨(some 16), none, .len (.t 15)⟩,
       ⟨(some 17), none, .bin .add (.t 13) (.t 16)⟩,
       ⟨(some 3), none, .move (.t 17)⟩])))
    (.ops [⟨(some 18), none, .bin .add (.t 9) (.c (.sc (.int .i64 (1))))⟩,
      ⟨(some 9), none, .move (.t 18)⟩])))))))
  (.seq (.ops [⟨(some 19), none, .move (.t 3)⟩,
    ⟨(some 2), none, .move (.t 19)⟩])
  (.ret)))),
  [.t 2]⟩
theorem ok97 : EntryOk Tryz.prog 97 af97 := ⟨Tryz.f97, _, Tryz.func97, by decide, rfl, by kernel_rfl, by kernel_rfl, rfl⟩
/-- slices.Values[[]hemiola/api.Note,hemiola/api.Note] -/
noncomputable def af101 : AF := ⟨4, .seq (.ops [⟨(some 1), none, .box (.t 0)⟩,
    ⟨(some 2), none, .move (.c (.sc .nilFunc))⟩])
  (.seq (.ops [⟨(some 3), none, .mkFn (.func 180) [] [(.t 1)]⟩,
    ⟨(some 2), none, .move (.t 3)⟩])
  (.ret)),
  [.t 2]⟩
theorem ok101 : EntryOk Tryz.prog 101 af101 := ⟨Tryz.f101, _, Tryz.func101, by decide, rfl, by kernel_rfl, by kernel_rfl, rfl⟩
/-- (hemiola/tempo.Stretch).until -/
noncomputable def af106 : AF := ⟨22, .seq (.ops [⟨(some 2), none, .box (.t 0)⟩,
    ⟨(some 4), none, .move (.c (.sc (.int .i64 (0))))⟩])
  (.seq (.draw [⟨false, [2], [], ⟨(some 5), none, .faddr 4 (.t 2)⟩⟩,
    ⟨false, [5], [15], ⟨(some 6), none, .load none (.t 5)⟩⟩,
    ⟨false, [2], [], ⟨(some 7), none, .faddr 2 (.t 2)⟩⟩,
    ⟨false, [7], [], ⟨(some 8), none, .load none (.t 7)⟩⟩,
    ⟨false, [2], [], ⟨(some 9), none, .faddr 3 (.t 2)⟩⟩,
    ⟨false, [9], [], ⟨(some 10), none, .load none (.t 9)⟩⟩,
    ⟨false, [2], [], ⟨(some 11), none, .faddr 1 (.t 2)⟩⟩,
    ⟨false, [11], [], ⟨(some 12), none, .load none (.t 11)⟩⟩,
    ⟨false, [2], [], ⟨(some 13), none, .faddr 0 (.t 2)⟩⟩,
    ⟨false, [13], [], ⟨(some 14), none, .load none (.t 13)⟩⟩,
    ⟨false, [12, 14], [], ⟨(some 15), none, .bin .sub (.t 12) (.t 14)⟩⟩,
    ⟨false, [1], [], ⟨(some 16), none, .move (.t 1)⟩⟩,
    ⟨false, [2], [], ⟨(some 17), none, .faddr 0 (.t 2)⟩⟩,
    ⟨false, [17], [], ⟨(some 18), none, .load none (.t 17)⟩⟩,
    ⟨false, [16, 18], [], ⟨(some 19), none, .bin .sub (.t 16) (.t 18)⟩⟩,
    ⟨true, [8, 10, 15, 19], [], ⟨(some 20), none, .call (.c (.fn (.func 181) [] [])) [(.t 8), (.t 10), (.t 15), (.t 19)]⟩⟩]
    [⟨(some 21), none, .bin .add (.t 6) (.t 20)⟩,
    ⟨(some 4), none, .move (.t 21)⟩])
  (.ret)),
  [.t 4]⟩
theorem ok106 : EntryOk Tryz.prog 106 af106 := ⟨Tryz.f106, _, Tryz.func106, by decide, rfl, by kernel_rfl, by kernel_rfl, rfl⟩
/-- hemiola/measure.ClefAt -/
noncomputable def af110 : AF := ⟨46, .seq (.ops [⟨(some 4), none, .box (.t 0)⟩,
    ⟨(some 8), none, .move (.c (.sc (.int .i64 (0))))⟩,
    ⟨(some 9), none, .move (.c (.sc (.int .i64 (0))))⟩])
  (.seq (.seq (.ops [⟨(some 13), none, .move (.t 1)⟩,
    ⟨(some 14), none, .bin .lss (.t 13) (.c (.sc (.int .i64 (0))))⟩,
    ⟨(some 15), none, .move (.t 14)⟩,
    ⟨(some 16), (some (15, false)), .move (.t 1)⟩,
    ⟨(some 17), (some (15, false)), .faddr 21 (.t 4)⟩,
    ⟨(some 18), (some (15, false)), .load none (.t 17)⟩,
    ⟨(some 19), (some (15, false)), .len (.t 18)⟩,
    ⟨(some 20), (some (15, false)), .bin .geq (.t 16) (.t 19)⟩,
    ⟨(some 21), none, .pick (.t 15) (.c (.sc (.bool true))) (.t 20)⟩])
  (.cond (.t 21)
   (.seq (.ops [⟨(some 8), none, .move (.c (.sc (.int .i64 (0))))⟩,
     ⟨(some 9), none, .move (.c (.sc (.int .i64 (2))))⟩])
   (.ret))
   (.skip)))
  (.seq (.seq (.ops [⟨(some 22), none, .move (.t 2)⟩,
    ⟨(some 23), none, .call (.c (.fn (.func 138) [] [])) [(.t 22)]⟩,
    ⟨(some 10), none, .move (.t 23)⟩])
  (.seq (.ops [⟨(some 24), none, .move (.t 10)⟩,
    ⟨(some 25), none, .bin .neq (.t 24) (.c (.sc (.int .i64 (0))))⟩])
  (.cond (.t 25)
   (.seq (.ops [⟨(some 26), none, .move (.t 10)⟩,
     ⟨(some 8), none, .move (.c (.sc (.int .i64 (0))))⟩,
     ⟨(some 9), none, .move (.t 26)⟩])
   (.ret))
   (.skip))))
  (.seq (.seq (.ops [⟨(some 27), none, .faddr 21 (.t 4)⟩,
    ⟨(some 28), none, .load none (.t 27)⟩,
    ⟨(some 29), none, .move (.t 1)⟩,
    ⟨(some 30), none, .iaddrS 2 (.t 28) (.t 29)⟩,
    ⟨(some 31), none, .faddr 0 (.t 30)⟩,
    ⟨(some 32), none, .load none (.t 31)⟩,
    ⟨(some 33), none, .len (.t 32)⟩,
    ⟨(some 34), none, .move (.c (.sc (.int .i64 (0))))⟩])
  (.block 0 (.loop (.seq (.ops [⟨(some 35), none, .bin .lss (.t 34) (.t 33)⟩])
    (.seq (.cond (.t 35)
     (.skip)
     (.exit 0))
    (.seq (.block 1 (.seq (.ops [⟨(some 36), none, .iaddrS 2 (.t 32) (.t 34)⟩,
       ⟨(some 37), none, .load (some 2) (.t 36)⟩,
       ⟨(some 12), none, .alloc [(.sc (.int .i64 (0))), (.sc (.int .i64 (0)))]⟩,
       ⟨none, none, .store 2 (.t 12) (.t 37)⟩])
     (.seq (.ops [⟨(some 38), none, .faddr 0 (.t 12)⟩,
       ⟨(some 39), none, .load none (.t 38)⟩,
       ⟨(some 40), none, .move (.t 3)⟩,
       ⟨(some 41), none, .bin .leq (.t 39) (.t 40)⟩])
     (.cond (.t 41)
      (.ops [⟨(some 42), none, .faddr 1 (.t 12)⟩,
        ⟨(some 43), none, .load none (.t 42)⟩,
        ⟨(some 2), none, .move (.t 43)⟩])
      (.skip)))))
    (.ops [⟨(some 44), none, .bin .add (.t 34) (.c (.sc (.int .i64 (1))))⟩,
      ⟨(some 34), none, .move (.t 44)⟩])))))))
  (.seq (.ops [⟨(some 45), none, .move (.t 2)⟩,
    ⟨(some 8), none, .move (.t 45)⟩,
    ⟨(some 9), none, .move (.c (.sc (.int .i64 (0))))⟩])
  (.ret))))),
  [.t 8, .t 9]⟩
theorem ok110 : EntryOk Tryz.prog 110 af110 := ⟨Tryz.f110, _, Tryz.func110, by decide, rfl, by kernel_rfl, by kernel_rfl, rfl⟩
/-- (*hemiola/tempo.Map).Micros -/
noncomputable def af115 : AF := ⟨20, .seq (.ops [⟨(some 4), none, .move (.c (.sc (.int .i64 (0))))⟩,
    ⟨(some 5), none, .move (.c (.sc (.int .i64 (0))))⟩])
  (.seq (.ops [⟨(some 9), none, .move (.t 0)⟩,
    ⟨(some 10), none, .move (.t 1)⟩,
    ⟨(some 11), none, .call (.c (.fn (.func 187) [] [])) [(.t 9), (.t 10)]⟩,
    ⟨(some 8), none, .move (.t 11)⟩,
    ⟨(some 12), none, .extract 0 (.t 8)⟩,
    ⟨(some 13), none, .extract 1 (.t 8)⟩,
    ⟨(some 6), none, .alloc [(.sc (.int .i64 (0))), (.sc (.int .i64 (0))), (.sc (.int .i64 (0))), (.sc (.int .i64 (0))), (.sc (.int .i64 (0)))]⟩,
    ⟨none, none, .store 5 (.t 6) (.t 12)⟩,
    ⟨(some 7), none, .move (.t 13)⟩])
  (.seq (.seq (.ops [⟨(some 14), none, .move (.t 7)⟩,
    ⟨(some 15), none, .bin .neq (.t 14) (.c (.sc (.int .i64 (0))))⟩])
  (.cond (.t 15)
   (.seq (.ops [⟨(some 16), none, .move (.t 7)⟩,
     ⟨(some 4), none, .move (.c (.sc (.int .i64 (0))))⟩,
     ⟨(some 5), none, .move (.t 16)⟩])
   (.ret))
   (.skip)))
  (.seq (.ops [⟨(some 17), none, .load (some 5) (.t 6)⟩,
    ⟨(some 18), none, .move (.t 1)⟩,
    ⟨(some 19), none, .call (.c (.fn (.func 106) [] [])) [(.t 17), (.t 18)]⟩,
    ⟨(some 4), none, .move (.t 19)⟩,
    ⟨(some 5), none, .move (.c (.sc (.int .i64 (0))))⟩])
  (.ret)))),
  [.t 4, .t 5]⟩
theorem ok115 : EntryOk Tryz.prog 115 af115 := ⟨Tryz.f115, _, Tryz.func115, by decide, rfl, by kernel_rfl, by kernel_rfl, rfl⟩
/-- hemiola/pitch.Diatonic -/
noncomputable def af119 : AF := ⟨16, .seq (.ops [⟨(some 1), none, .box (.t 0)⟩,
    ⟨(some 2), none, .move (.c (.sc (.int .i64 (0))))⟩,
    ⟨(some 3), none, .move (.c (.sc (.int .i64 (0))))⟩])
  (.seq (.seq (.ops [⟨(some 5), none, .load (some 3) (.t 1)⟩,
    ⟨(some 6), none, .call (.c (.fn (.func 189) [] [])) [(.t 5)]⟩,
    ⟨(some 4), none, .move (.t 6)⟩])
  (.seq (.ops [⟨(some 7), none, .move (.t 4)⟩,
    ⟨(some 8), none, .bin .neq (.t 7) (.c (.sc (.int .i64 (0))))⟩])
  (.cond (.t 8)
   (.seq (.ops [⟨(some 9), none, .move (.t 4)⟩,
     ⟨(some 2), none, .move (.c (.sc (.int .i64 (0))))⟩,
     ⟨(some 3), none, .move (.t 9)⟩])
   (.ret))
   (.skip))))
  (.seq (.ops [⟨(some 10), none, .faddr 2 (.t 1)⟩,
    ⟨(some 11), none, .load none (.t 10)⟩,
    ⟨(some 12), none, .bin .mul (.c (.sc (.int .i64 (7)))) (.t 11)⟩,
    ⟨(some 13), none, .faddr 0 (.t 1)⟩,
    ⟨(some 14), none, .load none (.t 13)⟩,
    ⟨(some 15), none, .bin .add (.t 12) (.t 14)⟩,
    ⟨(some 2), none, .move (.t 15)⟩,
    ⟨(some 3), none, .move (.c (.sc (.int .i64 (0))))⟩])
  (.ret))),
  [.t 2, .t 3]⟩
theorem ok119 : EntryOk Tryz.prog 119 af119 := ⟨Tryz.f119, _, Tryz.func119, by decide, rfl, by kernel_rfl, by kernel_rfl, rfl⟩
/-- slices.pdqsortCmpFunc[hemiola/perform.place] -/
noncomputable def af125 : AF := ⟨148, .seq (.ops [⟨(some 10), none, .move (.c (.sc (.bool true)))⟩])
  (.seq (.ops [⟨(some 11), none, .move (.c (.sc (.bool true)))⟩])
  (.block 0 (.loop (.block 1 (.seq (.ops [⟨(some 21), none, .move (.t 2)⟩,
       ⟨(some 22), none, .move (.t 1)⟩,
       ⟨(some 23), none, .bin .sub (.t 21) (.t 22)⟩,
       ⟨(some 12), none, .move (.t 23)⟩])
     (.seq (.seq (.ops [⟨(some 24), none, .move (.t 12)⟩,
       ⟨(some 25), none, .bin .leq (.t 24) (.c (.sc (.int .i64 (12))))⟩])
     (.cond (.t 25)
      (.seq (.ops [⟨(some 26), none, .move (.t 0)⟩,
        ⟨(some 27), none, .move (.t 1)⟩,
        ⟨(some 28), none, .move (.t 2)⟩,
        ⟨(some 29), none, .move (.t 4)⟩,
        ⟨(some 30), none, .call (.c (.fn (.func 194) [] [])) [(.t 26), (.t 27), (.t 28), (.t 29)]⟩])
      (.ret))
      (.skip)))
     (.seq (.seq (.ops [⟨(some 31), none, .move (.t 3)⟩,
       ⟨(some 32), none, .bin .eql (.t 31) (.c (.sc (.int .i64 (0))))⟩])
     (.cond (.t 32)
      (.seq (.ops [⟨(some 33), none, .move (.t 0)⟩,
        ⟨(some 34), none, .move (.t 1)⟩,
        ⟨(some 35), none, .move (.t 2)⟩,
        ⟨(some 36), none, .move (.t 4)⟩,
        ⟨(some 37), none, .call (.c (.fn (.func 195) [] [])) [(.t 33), (.t 34), (.t 35), (.t 36)]⟩])
      (.ret))
      (.skip)))
     (.seq (.seq (.ops [⟨(some 38), none, .move (.t 10)⟩,
       ⟨(some 39), none, .un .not (.t 38)⟩])
     (.cond (.t 39)
      (.seq (.ops [⟨(some 40), none, .move (.t 0)⟩,
        ⟨(some 41), none, .move (.t 1)⟩,
        ⟨(some 42), none, .move (.t 2)⟩,
        ⟨(some 43), none, .move (.t 4)⟩,
        ⟨(some 44), none, .call (.c (.fn (.func 196) [] [])) [(.t 40), (.t 41), (.t 42), (.t 43)]⟩])
      (.ops [⟨(some 45), none, .move (.t 3)⟩,
        ⟨(some 46), none, .bin .sub (.t 45) (.c (.sc (.int .i64 (1))))⟩,
        ⟨(some 3), none, .move (.t 46)⟩]))
      (.skip)))
     (.seq (.ops [⟨(some 48), none, .move (.t 0)⟩,
       ⟨(some 49), none, .move (.t 1)⟩,
       ⟨(some 50), none, .move (.t 2)⟩,
       ⟨(some 51), none, .move (.t 4)⟩,
       ⟨(some 52), none, .call (.c (.fn (.func 197) [] [])) [(.t 48), (.t 49), (.t 50), (.t 51)]⟩,
       ⟨(some 47), none, .move (.t 52)⟩,
       ⟨(some 53), none, .extract 0 (.t 47)⟩,
       ⟨(some 54), none, .extract 1 (.t 47)⟩,
       ⟨(some 13), none, .move (.t 53)⟩,
       ⟨(some 14), none, .move (.t 54)⟩])
     (.seq (.seq (.ops [⟨(some 55), none, .move (.t 14)⟩,
       ⟨(some 56), none, .bin .eql (.t 55) (.c (.sc (.int .i64 (2))))⟩])
     (.cond (.t 56)
      (.seq (.ops [⟨(some 57), none, .move (.t 0)⟩,
        ⟨(some 58), none, .move (.t 1)⟩,
        ⟨(some 59), none, .move (.t 2)⟩,
        ⟨(some 60), none, .move (.t 4)⟩,
        ⟨(some 61), none, .call (.c (.fn (.func 198) [] [])) [(.t 57), (.t 58), (.t 59), (.t 60)]⟩])
      (.seq (.ops [⟨(some 62), none, .move (.t 2)⟩,
        ⟨(some 63), none, .bin .sub (.t 62) (.c (.sc (.int .i64 (1))))⟩,
        ⟨(some 64), none, .move (.t 13)⟩,
        ⟨(some 65), none, .move (.t 1)⟩,
        ⟨(some 66), none, .bin .sub (.t 64) (.t 65)⟩,
        ⟨(some 67), none, .bin .sub (.t 63) (.t 66)⟩,
        ⟨(some 13), none, .move (.t 67)⟩])
      (.ops [⟨(some 14), none, .move (.c (.sc (.int .i64 (1))))⟩])))
      (.skip)))
     (.seq (.seq (.ops [⟨(some 68), none, .move (.t 10)⟩,
       ⟨(some 69), none, .move (.t 68)⟩,
       ⟨(some 70), (some (69, true)), .move (.t 11)⟩,
       ⟨(some 71), none, .pick (.t 69) (.t 70) (.c (.sc (.bool false)))⟩,
       ⟨(some 72), none, .move (.t 71)⟩,
       ⟨(some 73), (some (72, true)), .move (.t 14)⟩,
       ⟨(some 74), (some (72, true)), .bin .eql (.t 73) (.c (.sc (.int .i64 (1))))⟩,
       ⟨(some 75), none, .pick (.t 72) (.t 74) (.c (.sc (.bool false)))⟩])
     (.cond (.t 75)
      (.seq (.ops [⟨(some 76), none, .move (.t 0)⟩,
        ⟨(some 77), none, .move (.t 1)⟩,
        ⟨(some 78), none, .move (.t 2)⟩,
        ⟨(some 79), none, .move (.t 4)⟩,
        ⟨(some 80), none, .call (.c (.fn (.func 199) [] [])) [(.t 76), (.t 77), (.t 78), (.t 79)]⟩])
      (.cond (.t 80)
       (.ret)
       (.skip)))
      (.skip)))
     (.seq (.seq (.draw [⟨true, [1], [], ⟨(some 81), none, .move (.t 1)⟩⟩,
       ⟨true, [81], [], ⟨(some 82), none, .bin .gtr (.t 81) (.c (.sc (.int .i64 (0))))⟩⟩,
       ⟨true, [82], [], ⟨(some 83), none, .move (.t 82)⟩⟩,
       ⟨false, [4, 83], [], ⟨(some 84), (some (83, true)), .move (.t 4)⟩⟩,
       ⟨false, [0, 83], [], ⟨(some 85), (some (83, true)), .move (.t 0)⟩⟩,
       ⟨false, [1, 83], [], ⟨(some 86), (some (83, true)), .move (.t 1)⟩⟩,
       ⟨false, [86, 83], [], ⟨(some 87), (some (83, true)), .bin .sub (.t 86) (.c (.sc (.int .i64 (1))))⟩⟩,
       ⟨false, [85, 87, 83], [], ⟨(some 88), (some (83, true)), .iaddrS 18 (.t 85) (.t 87)⟩⟩,
       ⟨false, [88, 83], [], ⟨(some 89), (some (83, true)), .load (some 18) (.t 88)⟩⟩,
       ⟨false, [0, 83], [], ⟨(some 90), (some (83, true)), .move (.t 0)⟩⟩,
       ⟨false, [13, 83], [], ⟨(some 91), (some (83, true)), .move (.t 13)⟩⟩,
       ⟨false, [90, 91, 83], [], ⟨(some 92), (some (83, true)), .iaddrS 18 (.t 90) (.t 91)⟩⟩,
       ⟨false, [92, 83], [], ⟨(some 93), (some (83, true)), .load (some 18) (.t 92)⟩⟩]
       [⟨(some 94), (some (83, true)), .call (.t 84) [(.t 89), (.t 93)]⟩,
       ⟨(some 95), (some (83, true)), .bin .lss (.t 94) (.c (.sc (.int .i64 (0))))⟩,
       ⟨(some 96), (some (83, true)), .un .not (.t 95)⟩,
       ⟨(some 97), none, .pick (.t 83) (.t 96) (.c (.sc (.bool false)))⟩])
     (.cond (.t 97)
      (.seq (.ops [⟨(some 98), none, .move (.t 0)⟩,
        ⟨(some 99), none, .move (.t 1)⟩,
        ⟨(some 100), none, .move (.t 2)⟩,
        ⟨(some 101), none, .move (.t 13)⟩,
        ⟨(some 102), none, .move (.t 4)⟩,
        ⟨(some 103), none, .call (.c (.fn (.func 200) [] [])) [(.t 98), (.t 99), (.t 100), (.t 101), (.t 102)]⟩,
        ⟨(some 15), none, .move (.t 103)⟩])
      (.seq (.ops [⟨(some 104), none, .move (.t 15)⟩,
        ⟨(some 1), none, .move (.t 104)⟩])
      (.exit 1)))
      (.skip)))
     (.seq (.ops [⟨(some 106), none, .move (.t 0)⟩,
       ⟨(some 107), none, .move (.t 1)⟩,
       ⟨(some 108), none, .move (.t 2)⟩,
       ⟨(some 109), none, .move (.t 13)⟩,
       ⟨(some 110), none, .move (.t 4)⟩,
       ⟨(some 111), none, .call (.c (.fn (.func 201) [] [])) [(.t 106), (.t 107), (.t 108), (.t 109), (.t 110)]⟩,
       ⟨(some 105), none, .move (.t 111)⟩,
       ⟨(some 112), none, .extract 0 (.t 105)⟩,
       ⟨(some 113), none, .extract 1 (.t 105)⟩,
       ⟨(some 16), none, .move (.t 112)⟩,
       ⟨(some 17), none, .move (.t 113)⟩])
     (.seq (.ops [⟨(some 114), none, .move (.t 17)⟩,
       ⟨(some 11), none, .move (.t 114)⟩])
     (.seq (.ops [⟨(some 115), none, .move (.t 16)⟩,
       ⟨(some 116), none, .move (.t 1)⟩,
       ⟨(some 117), none, .bin .sub (.t 115) (.t 116)⟩,
       ⟨(some 118), none, .move (.t 2)⟩,
       ⟨(some 119), none, .move (.t 16)⟩,
       ⟨(some 120), none, .bin .sub (.t 118) (.t 119)⟩,
       ⟨(some 18), none, .move (.t 117)⟩,
       ⟨(some 19), none, .move (.t 120)⟩])
     (.seq (.ops [⟨(some 121), none, .move (.t 12)⟩,
       ⟨(some 122), none, .bin .quo (.t 121) (.c (.sc (.int .i64 (8))))⟩,
       ⟨(some 20), none, .move (.t 122)⟩])
     (.seq (.ops [⟨(some 123), none, .move (.t 18)⟩,
       ⟨(some 124), none, .move (.t 19)⟩,
       ⟨(some 125), none, .bin .lss (.t 123) (.t 124)⟩])
     (.cond (.t 125)
      (.seq (.ops [⟨(some 126), none, .move (.t 18)⟩,
        ⟨(some 127), none, .move (.t 20)⟩,
        ⟨(some 128), none, .bin .geq (.t 126) (.t 127)⟩,
        ⟨(some 10), none, .move (.t 128)⟩])
      (.seq (.ops [⟨(some 129), none, .move (.t 0)⟩,
        ⟨(some 130), none, .move (.t 1)⟩,
        ⟨(some 131), none, .move (.t 16)⟩,
        ⟨(some 132), none, .move (.t 3)⟩,
        ⟨(some 133), none, .move (.t 4)⟩,
        ⟨(some 134), none, .call (.c (.fn (.func 125) [] [])) [(.t 129), (.t 130), (.t 131), (.t 132), (.t 133)]⟩])
      (.ops [⟨(some 135), none, .move (.t 16)⟩,
        ⟨(some 136), none, .bin .add (.t 135) (.c (.sc (.int .i64 (1))))⟩,
        ⟨(some 1), none, .move (.t 136)⟩])))
      (.seq (.ops [⟨(some 137), none, .move (.t 19)⟩,
        ⟨(some 138), none, .move (.t 20)⟩,
        ⟨(some 139), none, .bin .geq (.t 137) (.t 138)⟩,
        ⟨(some 10), none, .move (.t 139)⟩])
      (.seq (.ops [⟨(some 140), none, .move (.t 0)⟩,
        ⟨(some 141), none, .move (.t 16)⟩,
        ⟨(some 142), none, .bin .add (.t 141) (.c (.sc (.int .i64 (1))))⟩,
        ⟨(some 143), none, .move (.t 2)⟩,
        ⟨(some 144), none, .move (.t 3)⟩,
        ⟨(some 145), none, .move (.t 4)⟩,
        ⟨(some 146), none, .call (.c (.fn (.func 125) [] [])) [(.t 140), (.t 142), (.t 143), (.t 144), (.t 145)]⟩])
      (.ops [⟨(some 147), none, .move (.t 16)⟩,
        ⟨(some 2), none, .move (.t 147)⟩]))))))))))))))))))))),
  []⟩
theorem ok125 : EntryOk Tryz.prog 125 af125 := ⟨Tryz.f125, _, Tryz.func125, by decide, rfl, by kernel_rfl, by kernel_rfl, rfl⟩
/-- hemiola/check.plain -/
noncomputable def af130 : AF := ⟨14, .seq (.ops [⟨(some 2), none, .move (.c (.sc (.bool false)))⟩])
  (.seq (.ops [⟨(some 3), none, .move (.c (.fn (.func 207) [] []))⟩])
  (.seq (.ops [⟨(some 4), none, .move (.t 0)⟩,
    ⟨(some 5), none, .lenStr (.t 4)⟩,
    ⟨(some 6), none, .bin .leq (.t 5) (.c (.sc (.int .i64 (256))))⟩,
    ⟨(some 7), none, .move (.t 6)⟩,
    ⟨(some 8), (some (7, true)), .move (.t 0)⟩,
    ⟨(some 9), (some (7, true)), .strBytes (.t 8)⟩,
    ⟨(some 10), (some (7, true)), .move (.t 3)⟩,
    ⟨(some 11), (some (7, true)), .call (.c (.fn (.func 208) [] [])) [(.t 9), (.t 10)]⟩,
    ⟨(some 12), (some (7, true)), .un .not (.t 11)⟩,
    ⟨(some 13), none, .pick (.t 7) (.t 12) (.c (.sc (.bool false)))⟩,
    ⟨(some 2), none, .move (.t 13)⟩])
  (.ret))),
  [.t 2]⟩
theorem ok130 : EntryOk Tryz.prog 130 af130 := ⟨Tryz.f130, _, Tryz.func130, by decide, rfl, by kernel_rfl, by kernel_rfl, rfl⟩
/-- hemiola/check.proper -/
noncomputable def af134 : AF := ⟨11, .seq (.ops [⟨(some 1), none, .box (.t 0)⟩,
    ⟨(some 2), none, .move (.c (.sc (.bool false)))⟩])
  (.seq (.ops [⟨(some 3), none, .faddr 0 (.t 1)⟩,
    ⟨(some 4), none, .load none (.t 3)⟩,
    ⟨(some 5), none, .call (.c (.fn (.func 131) [] [])) [(.t 4), (.c (.sc (.int .i64 (0)))), (.c (.sc (.int .i64 (99))))]⟩,
    ⟨(some 6), none, .move (.t 5)⟩,
    ⟨(some 7), (some (6, true)), .faddr 1 (.t 1)⟩,
    ⟨(some 8), (some (6, true)), .load none (.t 7)⟩,
    ⟨(some 9), (some (6, true)), .call (.c (.fn (.func 131) [] [])) [(.t 8), (.c (.sc (.int .i64 (1)))), (.c (.sc (.int .i64 (1073741824))))]⟩,
    ⟨(some 10), none, .pick (.t 6) (.t 9) (.c (.sc (.bool false)))⟩,
    ⟨(some 2), none, .move (.t 10)⟩])
  (.ret)),
  [.t 2]⟩
theorem ok134 : EntryOk Tryz.prog 134 af134 := ⟨Tryz.f134, _, Tryz.func134, by decide, rfl, by kernel_rfl, by kernel_rfl, rfl⟩
/-- hemiola/clef.Check -/
noncomputable def af138 : AF := ⟨11, .seq (.ops [⟨(some 2), none, .move (.c (.sc (.int .i64 (0))))⟩])
  (.seq (.ops [⟨(some 6), none, .move (.t 0)⟩,
    ⟨(some 7), none, .call (.c (.fn (.func 210) [] [])) [(.t 6)]⟩,
    ⟨(some 5), none, .move (.t 7)⟩,
    ⟨(some 8), none, .extract 0 (.t 5)⟩,
    ⟨(some 9), none, .extract 1 (.t 5)⟩,
    ⟨(some 3), none, .alloc [(.sc (.string ⟨#[]⟩)), (.sc (.int .u8 (0))), (.sc (.int .i64 (0))), (.sc (.int .i64 (0))), (.sc (.int .i64 (0))), (.sc (.int .i64 (0))), (.sc (.int .i64 (0)))]⟩,
    ⟨none, none, .store 7 (.t 3) (.t 8)⟩,
    ⟨(some 4), none, .move (.t 9)⟩])
  (.seq (.ops [⟨(some 10), none, .move (.t 4)⟩,
    ⟨(some 2), none, .move (.t 10)⟩])
  (.ret))),
  [.t 2]⟩
theorem ok138 : EntryOk Tryz.prog 138 af138 := ⟨Tryz.f138, _, Tryz.func138, by decide, rfl, by kernel_rfl, by kernel_rfl, rfl⟩
/-- hemiola/check.lacks -/
noncomputable def af142 : AF := ⟨9, .seq (.ops [⟨(some 2), none, .move (.c (.sc (.bool false)))⟩])
  (.seq (.ops [⟨(some 3), none, .move (.t 0)⟩,
    ⟨(some 4), none, .bin .eql (.t 3) (.c (.sc (.int .i64 (11))))⟩,
    ⟨(some 5), none, .move (.t 4)⟩,
    ⟨(some 6), (some (5, false)), .move (.t 0)⟩,
    ⟨(some 7), (some (5, false)), .bin .eql (.t 6) (.c (.sc (.int .i64 (20))))⟩,
    ⟨(some 8), none, .pick (.t 5) (.c (.sc (.bool true))) (.t 7)⟩,
    ⟨(some 2), none, .move (.t 8)⟩])
  (.ret)),
  [.t 2]⟩
theorem ok142 : EntryOk Tryz.prog 142 af142 := ⟨Tryz.f142, _, Tryz.func142, by decide, rfl, by kernel_rfl, by kernel_rfl, rfl⟩
/-- hemiola/event.Check -/
noncomputable def af146 : AF := ⟨70, .seq (.ops [⟨(some 1), none, .box (.t 0)⟩,
    ⟨(some 2), none, .move (.c (.sc (.int .i64 (0))))⟩])
  (.seq (.seq (.draw [⟨false, [1], [], ⟨(some 5), none, .faddr 0 (.t 1)⟩⟩,
    ⟨false, [5], [], ⟨(some 6), none, .faddr 0 (.t 5)⟩⟩,
    ⟨false, [6], [], ⟨(some 7), none, .load none (.t 6)⟩⟩,
    ⟨true, [7], [], ⟨(some 8), none, .call (.c (.fn (.func 220) [] [])) [(.t 7), (.c (.sc (.int .i64 (99))))]⟩⟩,
    ⟨false, [1], [], ⟨(some 9), none, .faddr 0 (.t 1)⟩⟩,
    ⟨false, [9], [], ⟨(some 10), none, .faddr 1 (.t 9)⟩⟩,
    ⟨false, [10], [3], ⟨(some 11), none, .load none (.t 10)⟩⟩]
    [⟨(some 12), none, .call (.c (.fn (.func 220) [] [])) [(.t 11), (.c (.sc (.int .i64 (1073741824))))]⟩,
    ⟨(some 13), none, .buildSl 1 [(.t 8), (.t 12)]⟩,
    ⟨(some 14), none, .call (.c (.fn (.func 219) [] [])) [(.t 13)]⟩,
    ⟨(some 3), none, .move (.t 14)⟩])
  (.seq (.ops [⟨(some 15), none, .move (.t 3)⟩,
    ⟨(some 16), none, .bin .neq (.t 15) (.c (.sc (.int .i64 (0))))⟩])
  (.cond (.t 16)
   (.seq (.ops [⟨(some 17), none, .move (.t 3)⟩,
     ⟨(some 2), none, .move (.t 17)⟩])
   (.ret))
   (.skip))))
  (.seq (.seq (.ops [⟨(some 18), none, .faddr 2 (.t 1)⟩,
    ⟨(some 19), none, .load none (.t 18)⟩,
    ⟨(some 20), none, .call (.c (.fn (.func 221) [] [])) [(.t 19)]⟩,
    ⟨(some 21), none, .un .not (.t 20)⟩])
  (.cond (.t 21)
   (.seq (.ops [⟨(some 2), none, .move (.c (.sc (.int .i64 (11))))⟩])
   (.ret))
   (.skip)))
  (.seq (.seq (.draw [⟨false, [1], [2], ⟨(some 22), none, .load (some 13) (.t 1)⟩⟩,
    ⟨false, [1], [], ⟨(some 23), none, .load (some 13) (.t 1)⟩⟩,
    ⟨true, [23], [], ⟨(some 24), none, .call (.c (.fn (.func 223) [] [])) [(.t 23)]⟩⟩]
    [⟨(some 25), none, .call (.c (.fn (.func 222) [] [])) [(.t 22), (.t 24)]⟩,
    ⟨(some 26), none, .un .not (.t 25)⟩])
  (.cond (.t 26)
   (.seq (.ops [⟨(some 2), none, .move (.c (.sc (.int .i64 (3))))⟩])
   (.ret))
   (.skip)))
  (.seq (.seq (.ops [⟨(some 27), none, .faddr 2 (.t 1)⟩,
    ⟨(some 28), none, .load none (.t 27)⟩,
    ⟨(some 29), none, .bin .neq (.t 28) (.c (.sc (.int .i64 (3))))⟩,
    ⟨(some 30), none, .move (.t 29)⟩,
    ⟨(some 31), (some (30, true)), .faddr 3 (.t 1)⟩,
    ⟨(some 32), (some (30, true)), .load (some 2) (.t 31)⟩,
    ⟨(some 33), (some (30, true)), .call (.c (.fn (.func 224) [] [])) [(.t 32)]⟩,
    ⟨(some 34), (some (30, true)), .bin .neq (.t 33) (.c (.sc (.int .i64 (0))))⟩,
    ⟨(some 35), none, .pick (.t 30) (.t 34) (.c (.sc (.bool false)))⟩])
  (.cond (.t 35)
   (.seq (.ops [⟨(some 2), none, .move (.c (.sc (.int .i64 (17))))⟩])
   (.ret))
   (.skip)))
  (.seq (.seq (.ops [⟨(some 36), none, .faddr 2 (.t 1)⟩,
    ⟨(some 37), none, .load none (.t 36)⟩,
    ⟨(some 38), none, .bin .eql (.t 37) (.c (.sc (.int .i64 (1))))⟩])
  (.cond (.t 38)
   (.seq (.draw [⟨false, [1], [], ⟨(some 39), none, .faddr 5 (.t 1)⟩⟩,
     ⟨false, [39], [], ⟨(some 40), none, .load none (.t 39)⟩⟩,
     ⟨true, [40], [], ⟨(some 41), none, .call (.c (.fn (.func 225) [] [])) [(.t 40)]⟩⟩,
     ⟨false, [1], [], ⟨(some 42), none, .faddr 6 (.t 1)⟩⟩,
     ⟨false, [42], [2], ⟨(some 43), none, .load none (.t 42)⟩⟩,
     ⟨true, [43], [], ⟨(some 44), none, .call (.c (.fn (.func 116) [] [])) [(.t 43)]⟩⟩,
     ⟨false, [1], [], ⟨(some 45), none, .faddr 10 (.t 1)⟩⟩,
     ⟨false, [45], [2, 5], ⟨(some 46), none, .load none (.t 45)⟩⟩]
     [⟨(some 47), none, .call (.c (.fn (.func 226) [] [])) [(.t 46)]⟩,
     ⟨(some 48), none, .buildSl 1 [(.t 41), (.t 44), (.t 47)]⟩,
     ⟨(some 49), none, .call (.c (.fn (.func 219) [] [])) [(.t 48)]⟩,
     ⟨(some 4), none, .move (.t 49)⟩])
   (.seq (.ops [⟨(some 50), none, .move (.t 4)⟩,
     ⟨(some 51), none, .bin .neq (.t 50) (.c (.sc (.int .i64 (0))))⟩])
   (.cond (.t 51)
    (.seq (.ops [⟨(some 52), none, .move (.t 4)⟩,
      ⟨(some 2), none, .move (.t 52)⟩])
    (.ret))
    (.skip))))
   (.skip)))
  (.seq (.draw [⟨false, [1], [], ⟨(some 53), none, .faddr 7 (.t 1)⟩⟩,
    ⟨false, [53], [], ⟨(some 54), none, .load none (.t 53)⟩⟩,
    ⟨true, [54], [], ⟨(some 55), none, .call (.c (.fn (.func 220) [] [])) [(.t 54), (.c (.sc (.int .i64 (31))))]⟩⟩,
    ⟨false, [1], [], ⟨(some 56), none, .faddr 8 (.t 1)⟩⟩,
    ⟨false, [56], [2], ⟨(some 57), none, .load none (.t 56)⟩⟩,
    ⟨true, [57], [], ⟨(some 58), none, .call (.c (.fn (.func 220) [] [])) [(.t 57), (.c (.sc (.int .i64 (4))))]⟩⟩,
    ⟨false, [1], [], ⟨(some 59), none, .faddr 9 (.t 1)⟩⟩,
    ⟨false, [59], [2, 5], ⟨(some 60), none, .load none (.t 59)⟩⟩,
    ⟨true, [60], [], ⟨(some 61), none, .call (.c (.fn (.func 220) [] [])) [(.t 60), (.c (.sc (.int .i64 (9))))]⟩⟩,
    ⟨false, [1], [], ⟨(some 62), none, .faddr 11 (.t 1)⟩⟩,
    ⟨false, [62], [2, 5, 8], ⟨(some 63), none, .load none (.t 62)⟩⟩,
    ⟨true, [63], [], ⟨(some 64), none, .call (.c (.fn (.func 220) [] [])) [(.t 63), (.c (.sc (.int .i64 (2))))]⟩⟩,
    ⟨false, [1], [], ⟨(some 65), none, .faddr 12 (.t 1)⟩⟩,
    ⟨false, [65], [2, 5, 8, 11], ⟨(some 66), none, .load none (.t 65)⟩⟩]
    [⟨(some 67), none, .call (.c (.fn (.func 220) [] [])) [(.t 66), (.c (.sc (.int .i64 (2))))]⟩,
    ⟨(some 68), none, .buildSl 1 [(.t 55), (.t 58), (.t 61), (.t 64), (.t 67)]⟩,
    ⟨(some 69), none, .call (.c (.fn (.func 219) [] [])) [(.t 68)]⟩,
    ⟨(some 2), none, .move (.t 69)⟩])
  (.ret))))))),
  [.t 2]⟩
theorem ok146 : EntryOk Tryz.prog 146 af146 := ⟨Tryz.f146, _, Tryz.func146, by decide, rfl, by kernel_rfl, by kernel_rfl, rfl⟩
/-- (*hemiola/check.checker).pitches$1$2 -/
noncomputable def af150 : AF := ⟨8, .seq (.ops [⟨(some 2), none, .box (.t 0)⟩,
    ⟨(some 3), none, .move (.c (.sc (.bool false)))⟩])
  (.seq (.ops [⟨(some 4), none, .load none (.t 1)⟩,
    ⟨(some 5), none, .faddr 0 (.t 2)⟩,
    ⟨(some 6), none, .load (some 3) (.t 5)⟩,
    ⟨(some 7), none, .call (.t 4) [(.t 6)]⟩,
    ⟨(some 3), none, .move (.t 7)⟩])
  (.ret)),
  [.t 3]⟩
theorem ok150 : EntryOk Tryz.prog 150 af150 := ⟨Tryz.f150, _, Tryz.func150, by decide, rfl, by kernel_rfl, by kernel_rfl, rfl⟩
/-- hemiola/score.Next -/
noncomputable def af155 : AF := ⟨54, .seq (.ops [⟨(some 2), none, .box (.t 0)⟩,
    ⟨(some 3), none, .box (.t 1)⟩,
    ⟨(some 4), none, .alloc [(.sc (.int .i64 (0))), (.sc (.int .i64 (0))), (.sc (.int .i64 (0))), (.sc (.int .i64 (0))), (.sc (.int .i64 (0))), (.sc (.int .i64 (0))), (.sc (.int .i64 (0)))]⟩,
    ⟨(some 5), none, .move (.c (.sc (.bool false)))⟩])
  (.seq (.seq (.ops [⟨(some 6), none, .load (some 6) (.t 2)⟩,
    ⟨(some 7), none, .load (some 7) (.t 3)⟩,
    ⟨(some 8), none, .call (.c (.fn (.func 230) [] [])) [(.t 6), (.t 7)]⟩,
    ⟨(some 9), none, .bin .neq (.t 8) (.c (.sc (.int .i64 (0))))⟩])
  (.cond (.t 9)
   (.seq (.ops [⟨(some 10), none, .build [(.sc (.int .i64 (0))), (.sc (.int .i64 (0))), (.sc (.int .i64 (0))), (.sc (.int .i64 (0))), (.sc (.int .i64 (0))), (.sc (.int .i64 (0))), (.sc (.int .i64 (0)))] []⟩,
     ⟨none, none, .store 7 (.t 4) (.t 10)⟩,
     ⟨(some 5), none, .move (.c (.sc (.bool false)))⟩])
   (.ret))
   (.skip)))
  (.seq (.seq (.draw [⟨false, [3], [], ⟨(some 11), none, .faddr 5 (.t 3)⟩⟩,
    ⟨false, [11], [10], ⟨(some 12), none, .load none (.t 11)⟩⟩,
    ⟨false, [12], [], ⟨(some 13), none, .bin .add (.t 12) (.c (.sc (.int .i64 (1))))⟩⟩,
    ⟨false, [2], [], ⟨(some 14), none, .load (some 6) (.t 2)⟩⟩,
    ⟨false, [3], [], ⟨(some 15), none, .faddr 3 (.t 3)⟩⟩,
    ⟨false, [15], [], ⟨(some 16), none, .load none (.t 15)⟩⟩,
    ⟨false, [3], [], ⟨(some 17), none, .faddr 2 (.t 3)⟩⟩,
    ⟨false, [17], [], ⟨(some 18), none, .load none (.t 17)⟩⟩,
    ⟨false, [3], [], ⟨(some 19), none, .faddr 4 (.t 3)⟩⟩,
    ⟨false, [19], [], ⟨(some 20), none, .load none (.t 19)⟩⟩,
    ⟨true, [14, 16, 18, 20], [], ⟨(some 21), none, .call (.c (.fn (.func 231) [] [])) [(.t 14), (.t 16), (.t 18), (.t 20)]⟩⟩,
    ⟨false, [21], [], ⟨(some 22), none, .len (.t 21)⟩⟩]
    [⟨(some 23), none, .bin .lss (.t 13) (.t 22)⟩])
  (.cond (.t 23)
   (.seq (.ops [⟨(some 24), none, .faddr 3 (.t 3)⟩,
     ⟨(some 25), none, .load none (.t 24)⟩,
     ⟨(some 26), none, .faddr 2 (.t 3)⟩,
     ⟨(some 27), none, .load none (.t 26)⟩,
     ⟨(some 28), none, .faddr 4 (.t 3)⟩,
     ⟨(some 29), none, .load none (.t 28)⟩,
     ⟨(some 30), none, .faddr 5 (.t 3)⟩,
     ⟨(some 31), none, .load none (.t 30)⟩,
     ⟨(some 32), none, .bin .add (.t 31) (.c (.sc (.int .i64 (1))))⟩,
     ⟨(some 33), none, .call (.c (.fn (.func 232) [] [])) [(.t 25), (.t 27), (.t 29), (.t 32)]⟩,
     ⟨none, none, .store 7 (.t 4) (.t 33)⟩,
     ⟨(some 5), none, .move (.c (.sc (.bool true)))⟩])
   (.ret))
   (.skip)))
  (.seq (.seq (.ops [⟨(some 34), none, .load (some 6) (.t 2)⟩,
    ⟨(some 35), none, .faddr 3 (.t 3)⟩,
    ⟨(some 36), none, .load none (.t 35)⟩,
    ⟨(some 37), none, .bin .add (.t 36) (.c (.sc (.int .i64 (1))))⟩,
    ⟨(some 38), none, .faddr 2 (.t 3)⟩,
    ⟨(some 39), none, .load none (.t 38)⟩,
    ⟨(some 40), none, .faddr 4 (.t 3)⟩,
    ⟨(some 41), none, .load none (.t 40)⟩,
    ⟨(some 42), none, .call (.c (.fn (.func 231) [] [])) [(.t 34), (.t 37), (.t 39), (.t 41)]⟩,
    ⟨(some 43), none, .len (.t 42)⟩,
    ⟨(some 44), none, .bin .gtr (.t 43) (.c (.sc (.int .i64 (0))))⟩])
  (.cond (.t 44)
   (.seq (.ops [⟨(some 45), none, .faddr 3 (.t 3)⟩,
     ⟨(some 46), none, .load none (.t 45)⟩,
     ⟨(some 47), none, .bin .add (.t 46) (.c (.sc (.int .i64 (1))))⟩,
     ⟨(some 48), none, .faddr 2 (.t 3)⟩,
     ⟨(some 49), none, .load none (.t 48)⟩,
     ⟨(some 50), none, .faddr 4 (.t 3)⟩,
     ⟨(some 51), none, .load none (.t 50)⟩,
     ⟨(some 52), none, .call (.c (.fn (.func 232) [] [])) [(.t 47), (.t 49), (.t 51), (.c (.sc (.int .i64 (0))))]⟩,
     ⟨none, none, .store 7 (.t 4) (.t 52)⟩,
     ⟨(some 5), none, .move (.c (.sc (.bool true)))⟩])
   (.ret))
   (.skip)))
  (.seq (.ops [⟨(some 53), none, .build [(.sc (.int .i64 (0))), (.sc (.int .i64 (0))), (.sc (.int .i64 (0))), (.sc (.int .i64 (0))), (.sc (.int .i64 (0))), (.sc (.int .i64 (0))), (.sc (.int .i64 (0)))] []⟩,
    ⟨none, none, .store 7 (.t 4) (.t 53)⟩,
    ⟨(some 5), none, .move (.c (.sc (.bool false)))⟩])
  (.ret))))),
  [.c 4 (some 7), .t 5]⟩
theorem ok155 : EntryOk Tryz.prog 155 af155 := ⟨Tryz.f155, _, Tryz.func155, by decide, rfl, by kernel_rfl, by kernel_rfl, rfl⟩
/-- (*hemiola/check.checker).repeats$1 -/
noncomputable def af162 : AF := ⟨20, .seq (.ops [⟨(some 3), none, .box (.t 1)⟩,
    ⟨(some 4), none, .move (.c (.sc (.bool false)))⟩])
  (.seq (.ops [⟨(some 5), none, .faddr 13 (.t 3)⟩,
    ⟨(some 6), none, .load none (.t 5)⟩,
    ⟨(some 7), none, .bin .neq (.t 6) (.c (.sc (.int .i64 (0))))⟩,
    ⟨(some 8), none, .move (.t 7)⟩,
    ⟨(some 9), (some (8, true)), .faddr 13 (.t 3)⟩,
    ⟨(some 10), (some (8, true)), .load none (.t 9)⟩,
    ⟨(some 11), (some (8, true)), .call (.c (.fn (.func 131) [] [])) [(.t 10), (.c (.sc (.int .i64 (2)))), (.c (.sc (.int .i64 (8))))]⟩,
    ⟨(some 12), (some (8, true)), .un .not (.t 11)⟩,
    ⟨(some 13), none, .pick (.t 8) (.t 12) (.c (.sc (.bool false)))⟩,
    ⟨(some 14), none, .move (.t 13)⟩,
    ⟨(some 15), (some (14, false)), .faddr 14 (.t 3)⟩,
    ⟨(some 16), (some (14, false)), .load none (.t 15)⟩,
    ⟨(some 17), (some (14, false)), .call (.c (.fn (.func 131) [] [])) [(.t 16), (.c (.sc (.int .i64 (0)))), (.c (.sc (.int .i64 (255))))]⟩,
    ⟨(some 18), (some (14, false)), .un .not (.t 17)⟩,
    ⟨(some 19), none, .pick (.t 14) (.c (.sc (.bool true))) (.t 18)⟩,
    ⟨(some 4), none, .move (.t 19)⟩])
  (.ret)),
  [.t 4]⟩
theorem ok162 : EntryOk Tryz.prog 162 af162 := ⟨Tryz.f162, _, Tryz.func162, by decide, rfl, by kernel_rfl, by kernel_rfl, rfl⟩
/-- (*hemiola/check.checker).placed -/
noncomputable def af168 : AF := ⟨34, .seq (.ops [⟨(some 3), none, .box (.t 0)⟩,
    ⟨(some 5), none, .box (.t 2)⟩,
    ⟨(some 6), none, .move (.c (.sc (.bool false)))⟩])
  (.seq (.ops [⟨(some 8), none, .mkFn (.func 246) [] [(.t 3), (.t 5)]⟩,
    ⟨(some 7), none, .move (.t 8)⟩])
  (.seq (.seq (.ops [⟨(some 9), none, .move (.t 1)⟩,
    ⟨(some 10), none, .bin .geq (.t 9) (.c (.sc (.int .i64 (4))))⟩,
    ⟨(some 11), none, .move (.t 10)⟩,
    ⟨(some 12), (some (11, true)), .move (.t 7)⟩,
    ⟨(some 13), (some (11, true)), .call (.t 12) [(.c (.sc (.int .i64 (1))))]⟩,
    ⟨(some 14), (some (11, true)), .un .not (.t 13)⟩,
    ⟨(some 15), none, .pick (.t 11) (.t 14) (.c (.sc (.bool false)))⟩])
  (.cond (.t 15)
   (.seq (.ops [⟨(some 6), none, .move (.c (.sc (.bool false)))⟩])
   (.ret))
   (.skip)))
  (.seq (.seq (.ops [⟨(some 16), none, .move (.t 1)⟩])
  (.block 0 (.seq (.seq (.ops [⟨(some 18), none, .bin .eql (.t 16) (.c (.sc (.int .i64 (2))))⟩,
     ⟨(some 17), none, .move (.t 18)⟩])
   (.cond (.t 17)
    (.skip)
    (.ops [⟨(some 19), none, .bin .eql (.t 16) (.c (.sc (.int .i64 (5))))⟩,
      ⟨(some 17), none, .move (.t 19)⟩])))
   (.cond (.t 17)
    (.seq (.ops [⟨(some 20), none, .move (.t 7)⟩,
      ⟨(some 21), none, .call (.t 20) [(.c (.sc (.int .i64 (4))))]⟩,
      ⟨(some 6), none, .move (.t 21)⟩])
    (.ret))
    (.seq (.seq (.ops [⟨(some 23), none, .bin .eql (.t 16) (.c (.sc (.int .i64 (3))))⟩,
      ⟨(some 22), none, .move (.t 23)⟩])
    (.cond (.t 22)
     (.skip)
     (.ops [⟨(some 24), none, .bin .eql (.t 16) (.c (.sc (.int .i64 (6))))⟩,
       ⟨(some 22), none, .move (.t 24)⟩])))
    (.cond (.t 22)
     (.seq (.draw [⟨true, [7], [], ⟨(some 25), none, .move (.t 7)⟩⟩,
       ⟨true, [25], [], ⟨(some 26), none, .call (.t 25) [(.c (.sc (.int .i64 (8))))]⟩⟩,
       ⟨true, [26], [], ⟨(some 27), none, .move (.t 26)⟩⟩,
       ⟨false, [3, 27], [], ⟨(some 28), (some (27, true)), .load none (.t 3)⟩⟩,
       ⟨true, [28, 27], [], ⟨(some 29), (some (27, true)), .call (.c (.fn (.func 247) [] [])) [(.t 28), (.c (.sc (.int .i64 (2))))]⟩⟩,
       ⟨false, [3, 27], [4], ⟨(some 30), (some (27, true)), .load none (.t 3)⟩⟩]
       [⟨(some 31), (some (27, true)), .call (.c (.fn (.func 247) [] [])) [(.t 30), (.c (.sc (.int .i64 (8))))]⟩,
       ⟨(some 32), (some (27, true)), .bin .gtr (.t 29) (.t 31)⟩,
       ⟨(some 33), none, .pick (.t 27) (.t 32) (.c (.sc (.bool false)))⟩,
       ⟨(some 6), none, .move (.t 33)⟩])
     (.ret))
     (.skip)))))))
  (.seq (.ops [⟨(some 6), none, .move (.c (.sc (.bool true)))⟩])
  (.ret))))),
  [.t 6]⟩
theorem ok168 : EntryOk Tryz.prog 168 af168 := ⟨Tryz.f168, _, Tryz.func168, by decide, rfl, by kernel_rfl, by kernel_rfl, rfl⟩
/-- hemiola/measure.Slots -/
noncomputable def af176 : AF := ⟨83, .seq (.ops [⟨(some 1), none, .box (.t 0)⟩,
    ⟨(some 2), none, .move (.c (.sl true .full 0 []))⟩,
    ⟨(some 3), none, .move (.c (.sc (.int .i64 (0))))⟩])
  (.seq (.ops [⟨(some 16), none, .load (some 22) (.t 1)⟩,
    ⟨(some 17), none, .call (.c (.fn (.func 53) [] [])) [(.t 16)]⟩,
    ⟨(some 15), none, .move (.t 17)⟩,
    ⟨(some 18), none, .extract 0 (.t 15)⟩,
    ⟨(some 19), none, .extract 1 (.t 15)⟩,
    ⟨(some 4), none, .move (.t 18)⟩,
    ⟨(some 5), none, .move (.t 19)⟩])
  (.seq (.ops [⟨(some 6), none, .move (.c (.sl true .full 0 []))⟩])
  (.seq (.skip)
  (.seq (.seq (.ops [⟨(some 20), none, .faddr 21 (.t 1)⟩,
    ⟨(some 21), none, .load none (.t 20)⟩,
    ⟨(some 22), none, .len (.t 21)⟩,
    ⟨(some 23), none, .move (.c (.sc (.int .i64 (0))))⟩])
  (.block 0 (.loop (.seq (.ops [⟨(some 24), none, .bin .lss (.t 23) (.t 22)⟩])
    (.seq (.cond (.t 24)
     (.skip)
     (.exit 0))
    (.seq (.block 1 (.seq (.ops [⟨(some 25), none, .move (.t 23)⟩,
       ⟨(some 26), none, .iaddrS 2 (.t 21) (.t 23)⟩,
       ⟨(some 27), none, .load (some 2) (.t 26)⟩,
       ⟨(some 8), none, .alloc [(.sl true .full 0 []), (.sl true .full 0 [])]⟩,
       ⟨(some 7), none, .move (.t 25)⟩,
       ⟨none, none, .store 2 (.t 8) (.t 27)⟩])
     (.seq (.ops [⟨(some 28), none, .faddr 1 (.t 8)⟩,
       ⟨(some 29), none, .load none (.t 28)⟩,
       ⟨(some 30), none, .len (.t 29)⟩,
       ⟨(some 31), none, .move (.c (.sc (.int .i64 (0))))⟩])
     (.block 2 (.loop (.seq (.ops [⟨(some 32), none, .bin .lss (.t 31) (.t 30)⟩])
       (.seq (.cond (.t 32)
        (.skip)
        (.exit 2))
       (.seq (.block 3 (.seq (.ops [⟨(some 33), none, .move (.t 31)⟩,
          ⟨(some 34), none, .iaddrS 2 (.t 29) (.t 31)⟩,
          ⟨(some 35), none, .load (some 2) (.t 34)⟩,
          ⟨(some 10), none, .alloc [(.sl true .full 0 []), (.sl true .full 0 [])]⟩,
          ⟨(some 9), none, .move (.t 33)⟩,
          ⟨none, none, .store 2 (.t 10) (.t 35)⟩])
        (.seq (.seq (.ops [⟨(some 36), none, .move (.t 5)⟩,
          ⟨(some 37), none, .bin .neq (.t 36) (.c (.sc (.int .i64 (0))))⟩])
        (.cond (.t 37)
         (.exit 0)
         (.skip)))
        (.seq (.seq (.ops [⟨(some 38), none, .load (some 2) (.t 10)⟩,
          ⟨(some 39), none, .call (.c (.fn (.func 251) [] [])) [(.t 38)]⟩,
          ⟨(some 40), none, .un .not (.t 39)⟩])
        (.cond (.t 40)
         (.exit 3)
         (.skip)))
        (.seq (.ops [⟨(some 11), none, .move (.c (.sl true .full 0 []))⟩])
        (.seq (.seq (.ops [⟨(some 42), none, .load (some 2) (.t 10)⟩,
          ⟨(some 43), none, .move (.t 4)⟩,
          ⟨(some 44), none, .call (.c (.fn (.func 54) [] [])) [(.t 42), (.t 43)]⟩,
          ⟨(some 41), none, .move (.t 44)⟩,
          ⟨(some 45), none, .extract 0 (.t 41)⟩,
          ⟨(some 46), none, .extract 1 (.t 41)⟩,
          ⟨(some 11), none, .move (.t 45)⟩,
          ⟨(some 5), none, .move (.t 46)⟩])
        (.seq (.ops [⟨(some 47), none, .move (.t 5)⟩,
          ⟨(some 48), none, .bin .neq (.t 47) (.c (.sc (.int .i64 (0))))⟩])
        (.cond (.t 48)
         (.exit 0)
         (.skip))))
        (.seq (.ops [⟨(some 49), none, .move (.t 11)⟩,
          ⟨(some 50), none, .len (.t 49)⟩,
          ⟨(some 51), none, .move (.c (.sc (.int .i64 (0))))⟩])
        (.block 4 (.loop (.seq (.ops [⟨(some 52), none, .bin .lss (.t 51) (.t 50)⟩])
          (.seq (.cond (.t 52)
           (.skip)
           (.exit 4))
          (.seq (.block 5 (.seq (.ops [⟨(some 53), none, .move (.t 51)⟩,
             ⟨(some 54), none, .iaddrS 1 (.t 49) (.t 51)⟩,
             ⟨(some 55), none, .load none (.t 54)⟩,
             ⟨(some 12), none, .move (.t 53)⟩,
             ⟨(some 13), none, .move (.t 55)⟩])
           (.seq (.ops [⟨(some 56), none, .move (.t 4)⟩,
             ⟨(some 14), none, .move (.t 56)⟩])
           (.seq (.seq (.ops [⟨(some 57), none, .move (.t 12)⟩,
             ⟨(some 58), none, .bin .add (.t 57) (.c (.sc (.int .i64 (1))))⟩,
             ⟨(some 59), none, .move (.t 11)⟩,
             ⟨(some 60), none, .len (.t 59)⟩,
             ⟨(some 61), none, .bin .lss (.t 58) (.t 60)⟩])
           (.cond (.t 61)
            (.ops [⟨(some 62), none, .move (.t 11)⟩,
              ⟨(some 63), none, .move (.t 12)⟩,
              ⟨(some 64), none, .bin .add (.t 63) (.c (.sc (.int .i64 (1))))⟩,
              ⟨(some 65), none, .iaddrS 1 (.t 62) (.t 64)⟩,
              ⟨(some 66), none, .load none (.t 65)⟩,
              ⟨(some 14), none, .move (.t 66)⟩])
            (.skip)))
           (.ops [⟨(some 67), none, .move (.t 6)⟩,
             ⟨(some 68), none, .move (.t 7)⟩,
             ⟨(some 69), none, .move (.t 9)⟩,
             ⟨(some 70), none, .move (.t 12)⟩,
             ⟨(some 71), none, .move (.t 13)⟩,
             ⟨(some 72), none, .move (.t 14)⟩,
             ⟨(some 73), none, .build [(.sc (.int .i64 (0))), (.sc (.int .i64 (0))), (.sc (.int .i64 (0))), (.sc (.int .i64 (0))), (.sc (.int .i64 (0)))] [((0, 1), (.t 68)), ((1, 1), (.t 69)), ((2, 1), (.t 70)), ((3, 1), (.t 71)), ((4, 1), (.t 72))]⟩,
             ⟨(some 74), none, .buildSl 5 [(.t 73)]⟩,
             ⟨(some 75), none, .append 5 40 (.t 67) (.t 74)⟩,
             ⟨(some 6), none, .move (.t 75)⟩])))))
          (.ops [⟨(some 76), none, .bin .add (.t 51) (.c (.sc (.int .i64 (1))))⟩,
            ⟨(some 51), none, .move (.t 76)⟩])))))))))))))
       (.ops [⟨(some 77), none, .bin .add (.t 31) (.c (.sc (.int .i64 (1))))⟩,
         ⟨(some 31), none, .move (.t 77)⟩])))))))))
    (.ops [⟨(some 78), none, .bin .add (.t 23) (.c (.sc (.int .i64 (1))))⟩,
      ⟨(some 23), none, .move (.t 78)⟩])))))))
  (.seq (.seq (.ops [⟨(some 79), none, .move (.t 5)⟩,
    ⟨(some 80), none, .bin .neq (.t 79) (.c (.sc (.int .i64 (0))))⟩])
  (.cond (.t 80)
   (.seq (.ops [⟨(some 81), none, .move (.t 5)⟩,
     ⟨(some 2), none, .move (.c (.sl true .full 0 []))⟩,
     ⟨(some 3), none, .move (.t 81)⟩])
   (.ret))
   (.skip)))
  (.seq (.ops [⟨(some 82), none, .move (.t 6)⟩,
    ⟨(some 2), none, .move (.t 82)⟩,
    ⟨(some 3), none, .move (.c (.sc (.int .i64 (0))))⟩])
  (.ret))))))),
  [.t 2, .t 3]⟩
theorem ok176 : EntryOk Tryz.prog 176 af176 := ⟨Tryz.f176, _, Tryz.func176, by decide, rfl, by kernel_rfl, by kernel_rfl, rfl⟩
/-- slices.Values[[]hemiola/api.Note,hemiola/api.Note]$1 -/
noncomputable def af180 : AF := ⟨16, .seq (.ops [⟨(some 5), none, .load none (.t 1)⟩,
    ⟨(some 6), none, .len (.t 5)⟩,
    ⟨(some 7), none, .move (.c (.sc (.int .i64 (0))))⟩])
  (.block 0 (.loop (.seq (.ops [⟨(some 8), none, .bin .lss (.t 7) (.t 6)⟩])
    (.seq (.cond (.t 8)
     (.skip)
     (.exit 0))
    (.seq (.block 1 (.seq (.ops [⟨(some 9), none, .iaddrS 9 (.t 5) (.t 7)⟩,
       ⟨(some 10), none, .load (some 9) (.t 9)⟩,
       ⟨(some 4), none, .alloc [(.sc (.int .i64 (0))), (.sc (.int .i64 (0))), (.sc (.int .i64 (0))), (.sc (.int .i64 (0))), (.sc (.int .i64 (0))), (.sc (.int .i64 (0))), (.sc (.int .i64 (0))), (.sc (.int .i64 (0))), (.sc (.int .i64 (0)))]⟩,
       ⟨none, none, .store 9 (.t 4) (.t 10)⟩])
     (.seq (.ops [⟨(some 11), none, .move (.t 0)⟩,
       ⟨(some 12), none, .load (some 9) (.t 4)⟩,
       ⟨(some 13), none, .call (.t 11) [(.t 12)]⟩,
       ⟨(some 14), none, .un .not (.t 13)⟩])
     (.cond (.t 14)
      (.ret)
      (.skip)))))
    (.ops [⟨(some 15), none, .bin .add (.t 7) (.c (.sc (.int .i64 (1))))⟩,
      ⟨(some 7), none, .move (.t 15)⟩])))))),
  []⟩
theorem ok180 : EntryOk Tryz.prog 180 af180 := ⟨Tryz.f180, _, Tryz.func180, by decide, rfl, by kernel_rfl, by kernel_rfl, rfl⟩
/-- hemiola/voice.lengths -/
noncomputable def af184 : AF := ⟨45, .seq (.ops [⟨(some 2), none, .box (.t 0)⟩,
    ⟨(some 4), none, .move (.c (.sl true .full 0 []))⟩,
    ⟨(some 5), none, .move (.c (.sc (.int .i64 (0))))⟩])
  (.seq (.block 0 (.seq (.ops [⟨(some 8), none, .move (.t 1)⟩,
     ⟨(some 9), none, .bin .lss (.t 8) (.c (.sc (.int .i64 (1))))⟩,
     ⟨(some 10), none, .move (.t 9)⟩,
     ⟨(some 11), (some (10, false)), .move (.t 1)⟩,
     ⟨(some 12), (some (10, false)), .bin .gtr (.t 11) (.c (.sc (.int .i64 (15482880))))⟩,
     ⟨(some 13), none, .pick (.t 10) (.c (.sc (.bool true))) (.t 12)⟩,
     ⟨(some 7), none, .move (.t 13)⟩])
   (.cond (.t 7)
    (.seq (.ops [⟨(some 4), none, .move (.c (.sl true .full 0 []))⟩,
      ⟨(some 5), none, .move (.c (.sc (.int .i64 (2))))⟩])
    (.ret))
    (.seq (.ops [⟨(some 15), none, .faddr 0 (.t 2)⟩,
      ⟨(some 16), none, .load none (.t 15)⟩,
      ⟨(some 17), none, .len (.t 16)⟩,
      ⟨(some 18), none, .bin .gtr (.t 17) (.c (.sc (.int .i64 (128))))⟩,
      ⟨(some 14), none, .move (.t 18)⟩])
    (.cond (.t 14)
     (.seq (.ops [⟨(some 4), none, .move (.c (.sl true .full 0 []))⟩,
       ⟨(some 5), none, .move (.c (.sc (.int .i64 (9))))⟩])
     (.ret))
     (.skip))))))
  (.seq (.seq (.ops [⟨(some 19), none, .load (some 2) (.t 2)⟩,
    ⟨(some 20), none, .call (.c (.fn (.func 259) [] [])) [(.t 19)]⟩,
    ⟨(some 21), none, .move (.t 20)⟩,
    ⟨(some 22), (some (21, true)), .faddr 0 (.t 2)⟩,
    ⟨(some 23), (some (21, true)), .load none (.t 22)⟩,
    ⟨(some 24), (some (21, true)), .len (.t 23)⟩,
    ⟨(some 25), (some (21, true)), .bin .eql (.t 24) (.c (.sc (.int .i64 (1))))⟩,
    ⟨(some 26), none, .pick (.t 21) (.t 25) (.c (.sc (.bool false)))⟩])
  (.cond (.t 26)
   (.seq (.seq (.ops [⟨(some 27), none, .faddr 0 (.t 2)⟩,
     ⟨(some 28), none, .load none (.t 27)⟩,
     ⟨(some 29), none, .iaddrS 13 (.t 28) (.c (.sc (.int .i64 (0))))⟩,
     ⟨(some 30), none, .load (some 13) (.t 29)⟩,
     ⟨(some 31), none, .call (.c (.fn (.func 146) [] [])) [(.t 30)]⟩,
     ⟨(some 6), none, .move (.t 31)⟩])
   (.seq (.ops [⟨(some 32), none, .move (.t 6)⟩,
     ⟨(some 33), none, .bin .neq (.t 32) (.c (.sc (.int .i64 (0))))⟩])
   (.cond (.t 33)
    (.seq (.ops [⟨(some 34), none, .move (.t 6)⟩,
      ⟨(some 4), none, .move (.c (.sl true .full 0 []))⟩,
      ⟨(some 5), none, .move (.t 34)⟩])
    (.ret))
    (.skip))))
   (.seq (.seq (.ops [⟨(some 35), none, .faddr 1 (.t 2)⟩,
     ⟨(some 36), none, .load none (.t 35)⟩,
     ⟨(some 37), none, .len (.t 36)⟩,
     ⟨(some 38), none, .bin .gtr (.t 37) (.c (.sc (.int .i64 (0))))⟩])
   (.cond (.t 38)
    (.seq (.ops [⟨(some 4), none, .move (.c (.sl true .full 0 []))⟩,
      ⟨(some 5), none, .move (.c (.sc (.int .i64 (21))))⟩])
    (.ret))
    (.skip)))
   (.seq (.ops [⟨(some 39), none, .move (.t 1)⟩,
     ⟨(some 40), none, .buildSl 1 [(.t 39)]⟩,
     ⟨(some 4), none, .move (.t 40)⟩,
     ⟨(some 5), none, .move (.c (.sc (.int .i64 (0))))⟩])
   (.ret))))
   (.skip)))
  (.seq (.ops [⟨(some 41), none, .load (some 2) (.t 2)⟩,
    ⟨(some 42), none, .call (.c (.fn (.func 260) [] [])) [(.t 41)]⟩,
    ⟨(some 43), none, .extract 0 (.t 42)⟩,
    ⟨(some 44), none, .extract 1 (.t 42)⟩,
    ⟨(some 4), none, .move (.t 43)⟩,
    ⟨(some 5), none, .move (.t 44)⟩])
  (.ret)))),
  [.t 4, .t 5]⟩
theorem ok184 : EntryOk Tryz.prog 184 af184 := ⟨Tryz.f184, _, Tryz.func184, by decide, rfl, by kernel_rfl, by kernel_rfl, rfl⟩
/-- hemiola/event.number -/
noncomputable def af188 : AF := ⟨22, .seq (.ops [⟨(some 1), none, .box (.t 0)⟩,
    ⟨(some 2), none, .move (.c (.sc (.int .i64 (0))))⟩,
    ⟨(some 3), none, .move (.c (.sc (.int .i64 (0))))⟩])
  (.seq (.ops [⟨(some 7), none, .load (some 3) (.t 1)⟩,
    ⟨(some 8), none, .call (.c (.fn (.func 117) [] [])) [(.t 7)]⟩,
    ⟨(some 6), none, .move (.t 8)⟩,
    ⟨(some 9), none, .extract 0 (.t 6)⟩,
    ⟨(some 10), none, .extract 1 (.t 6)⟩,
    ⟨(some 4), none, .move (.t 9)⟩,
    ⟨(some 5), none, .move (.t 10)⟩])
  (.seq (.seq (.ops [⟨(some 11), none, .move (.t 5)⟩,
    ⟨(some 12), none, .bin .neq (.t 11) (.c (.sc (.int .i64 (0))))⟩,
    ⟨(some 13), none, .move (.t 12)⟩,
    ⟨(some 14), (some (13, false)), .move (.t 4)⟩,
    ⟨(some 15), (some (13, false)), .bin .lss (.t 14) (.c (.sc (.int .i64 (0))))⟩,
    ⟨(some 16), none, .pick (.t 13) (.c (.sc (.bool true))) (.t 15)⟩,
    ⟨(some 17), none, .move (.t 16)⟩,
    ⟨(some 18), (some (17, false)), .move (.t 4)⟩,
    ⟨(some 19), (some (17, false)), .bin .gtr (.t 18) (.c (.sc (.int .i64 (127))))⟩,
    ⟨(some 20), none, .pick (.t 17) (.c (.sc (.bool true))) (.t 19)⟩])
  (.cond (.t 20)
   (.seq (.ops [⟨(some 2), none, .move (.c (.sc (.int .i64 (0))))⟩,
     ⟨(some 3), none, .move (.c (.sc (.int .i64 (18))))⟩])
   (.ret))
   (.skip)))
  (.seq (.ops [⟨(some 21), none, .move (.t 4)⟩,
    ⟨(some 2), none, .move (.t 21)⟩,
    ⟨(some 3), none, .move (.c (.sc (.int .i64 (0))))⟩])
  (.ret)))),
  [.t 2, .t 3]⟩
theorem ok188 : EntryOk Tryz.prog 188 af188 := ⟨Tryz.f188, _, Tryz.func188, by decide, rfl, by kernel_rfl, by kernel_rfl, rfl⟩
/-- hemiola/key.alter -/
noncomputable def af192 : AF := ⟨19, .seq (.ops [⟨(some 4), none, .move (.c (.sc (.int .i64 (0))))⟩])
  (.seq (.seq (.ops [⟨(some 6), none, .move (.t 1)⟩,
    ⟨(some 7), none, .call (.c (.fn (.func 264) [] [])) [(.t 6)]⟩,
    ⟨(some 8), none, .bin .add (.t 7) (.c (.sc (.int .i64 (1))))⟩,
    ⟨(some 5), none, .move (.t 8)⟩])
  (.block 0 (.seq (.ops [⟨(some 10), none, .move (.t 5)⟩,
     ⟨(some 11), none, .move (.t 0)⟩,
     ⟨(some 12), none, .bin .lss (.t 10) (.t 11)⟩,
     ⟨(some 9), none, .move (.t 12)⟩])
   (.cond (.t 9)
    (.seq (.ops [⟨(some 4), none, .move (.c (.sc (.int .i64 (1))))⟩])
    (.ret))
    (.seq (.ops [⟨(some 14), none, .move (.t 5)⟩,
      ⟨(some 15), none, .bin .sub (.c (.sc (.int .i64 (6)))) (.t 14)⟩,
      ⟨(some 16), none, .move (.t 0)⟩,
      ⟨(some 17), none, .un .neg (.t 16)⟩,
      ⟨(some 18), none, .bin .lss (.t 15) (.t 17)⟩,
      ⟨(some 13), none, .move (.t 18)⟩])
    (.cond (.t 13)
     (.seq (.ops [⟨(some 4), none, .move (.c (.sc (.int .i64 (-1))))⟩])
     (.ret))
     (.skip)))))))
  (.seq (.ops [⟨(some 4), none, .move (.c (.sc (.int .i64 (0))))⟩])
  (.ret))),
  [.t 4]⟩
theorem ok192 : EntryOk Tryz.prog 192 af192 := ⟨Tryz.f192, _, Tryz.func192, by decide, rfl, by kernel_rfl, by kernel_rfl, rfl⟩
/-- slices.insertionSortCmpFunc[hemiola/perform.hairpin] -/
noncomputable def af204 : AF := ⟨53, .seq (.ops [⟨(some 10), none, .move (.t 1)⟩,
    ⟨(some 11), none, .bin .add (.t 10) (.c (.sc (.int .i64 (1))))⟩,
    ⟨(some 8), none, .move (.t 11)⟩])
  (.block 0 (.loop (.seq (.seq (.ops [⟨(some 12), none, .move (.t 8)⟩,
      ⟨(some 13), none, .move (.t 2)⟩,
      ⟨(some 14), none, .bin .lss (.t 12) (.t 13)⟩])
    (.cond (.t 14)
     (.skip)
     (.exit 0)))
    (.seq (.block 1 (.seq (.ops [⟨(some 17), none, .move (.t 8)⟩,
       ⟨(some 9), none, .move (.t 17)⟩])
     (.block 2 (.loop (.seq (.seq (.draw [⟨true, [9], [], ⟨(some 18), none, .move (.t 9)⟩⟩,
         ⟨true, [1], [], ⟨(some 19), none, .move (.t 1)⟩⟩,
         ⟨true, [18, 19], [], ⟨(some 20), none, .bin .gtr (.t 18) (.t 19)⟩⟩,
         ⟨true, [20], [], ⟨(some 21), none, .move (.t 20)⟩⟩,
         ⟨false, [3, 21], [], ⟨(some 22), (some (21, true)), .move (.t 3)⟩⟩,
         ⟨false, [0, 21], [], ⟨(some 23), (some (21, true)), .move (.t 0)⟩⟩,
         ⟨false, [9, 21], [], ⟨(some 24), (some (21, true)), .move (.t 9)⟩⟩,
         ⟨false, [23, 24, 21], [], ⟨(some 25), (some (21, true)), .iaddrS 16 (.t 23) (.t 24)⟩⟩,
         ⟨false, [25, 21], [], ⟨(some 26), (some (21, true)), .load (some 16) (.t 25)⟩⟩,
         ⟨false, [0, 21], [], ⟨(some 27), (some (21, true)), .move (.t 0)⟩⟩,
         ⟨false, [9, 21], [], ⟨(some 28), (some (21, true)), .move (.t 9)⟩⟩,
         ⟨false, [28, 21], [], ⟨(some 29), (some (21, true)), .bin .sub (.t 28) (.c (.sc (.int .i64 (1))))⟩⟩,
         ⟨false, [27, 29, 21], [], ⟨(some 30), (some (21, true)), .iaddrS 16 (.t 27) (.t 29)⟩⟩,
         ⟨false, [30, 21], [], ⟨(some 31), (some (21, true)), .load (some 16) (.t 30)⟩⟩]
         [⟨(some 32), (some (21, true)), .call (.t 22) [(.t 26), (.t 31)]⟩,
         ⟨(some 33), (some (21, true)), .bin .lss (.t 32) (.c (.sc (.int .i64 (0))))⟩,
         ⟨(some 34), none, .pick (.t 21) (.t 33) (.c (.sc (.bool false)))⟩])
       (.cond (.t 34)
        (.skip)
        (.exit 2)))
       (.seq (.block 3 (.draw [⟨false, [0], [], ⟨(some 37), none, .move (.t 0)⟩⟩,
          ⟨false, [9], [], ⟨(some 38), none, .move (.t 9)⟩⟩,
          ⟨false, [0], [], ⟨(some 39), none, .move (.t 0)⟩⟩,
          ⟨false, [9], [], ⟨(some 40), none, .move (.t 9)⟩⟩,
          ⟨false, [40], [], ⟨(some 41), none, .bin .sub (.t 40) (.c (.sc (.int .i64 (1))))⟩⟩,
          ⟨false, [0], [], ⟨(some 42), none, .move (.t 0)⟩⟩,
          ⟨false, [9], [], ⟨(some 43), none, .move (.t 9)⟩⟩,
          ⟨false, [43], [], ⟨(some 44), none, .bin .sub (.t 43) (.c (.sc (.int .i64 (1))))⟩⟩,
          ⟨false, [42, 44], [], ⟨(some 45), none, .iaddrS 16 (.t 42) (.t 44)⟩⟩,
          ⟨false, [45], [], ⟨(some 46), none, .load (some 16) (.t 45)⟩⟩,
          ⟨false, [0], [], ⟨(some 47), none, .move (.t 0)⟩⟩,
          ⟨false, [9], [], ⟨(some 48), none, .move (.t 9)⟩⟩,
          ⟨false, [47, 48], [], ⟨(some 49), none, .iaddrS 16 (.t 47) (.t 48)⟩⟩,
          ⟨false, [49], [], ⟨(some 50), none, .load (some 16) (.t 49)⟩⟩,
          ⟨true, [37, 38], [], ⟨(some 51), none, .iaddrS 16 (.t 37) (.t 38)⟩⟩,
          ⟨true, [51, 46], [], ⟨none, none, .store 16 (.t 51) (.t 46)⟩⟩]
          [⟨(some 52), none, .iaddrS 16 (.t 39) (.t 41)⟩,
          ⟨none, none, .store 16 (.t 52) (.t 50)⟩]))
       (.ops [⟨(some 35), none, .move (.t 9)⟩,
         ⟨(some 36), none, .bin .sub (.t 35) (.c (.sc (.int .i64 (1))))⟩,
         ⟨(some 9), none, .move (.t 36)⟩])))))))
    (.ops [⟨(some 15), none, .move (.t 8)⟩,
      ⟨(some 16), none, .bin .add (.t 15) (.c (.sc (.int .i64 (1))))⟩,
      ⟨(some 8), none, .move (.t 16)⟩]))))),
  []⟩
theorem ok204 : EntryOk Tryz.prog 204 af204 := ⟨Tryz.f204, _, Tryz.func204, by decide, rfl, by kernel_rfl, by kernel_rfl, rfl⟩
/-- (*hemiola/check.checker).filled$1 -/
noncomputable def af211 : AF := ⟨20, .seq (.ops [⟨(some 4), none, .box (.t 1)⟩,
    ⟨(some 5), none, .move (.c (.sc (.bool false)))⟩])
  (.seq (.ops [⟨(some 10), none, .load (some 22) (.t 4)⟩,
    ⟨(some 11), none, .call (.c (.fn (.func 53) [] [])) [(.t 10)]⟩,
    ⟨(some 9), none, .move (.t 11)⟩,
    ⟨(some 12), none, .extract 0 (.t 9)⟩,
    ⟨(some 13), none, .extract 1 (.t 9)⟩,
    ⟨(some 6), none, .alloc [(.sc (.int .i64 (0)))]⟩,
    ⟨none, none, .store 1 (.t 6) (.t 12)⟩,
    ⟨(some 7), none, .move (.t 13)⟩])
  (.seq (.seq (.ops [⟨(some 14), none, .move (.t 7)⟩,
    ⟨(some 15), none, .bin .neq (.t 14) (.c (.sc (.int .i64 (0))))⟩])
  (.cond (.t 15)
   (.seq (.ops [⟨(some 5), none, .move (.c (.sc (.bool false)))⟩])
   (.ret))
   (.skip)))
  (.seq (.ops [⟨(some 8), none, .alloc [(.sc .nilFunc)]⟩,
    ⟨none, none, .store 1 (.t 8) (.c (.fn (.func 212) [] []))⟩])
  (.seq (.ops [⟨(some 16), none, .faddr 21 (.t 4)⟩,
    ⟨(some 17), none, .load none (.t 16)⟩,
    ⟨(some 18), none, .mkFn (.func 214) [] [(.t 8), (.t 2), (.t 6)]⟩,
    ⟨(some 19), none, .call (.c (.fn (.func 213) [] [])) [(.t 17), (.t 18)]⟩,
    ⟨(some 5), none, .move (.t 19)⟩])
  (.ret))))),
  [.t 5]⟩
theorem ok211 : EntryOk Tryz.prog 211 af211 := ⟨Tryz.f211, _, Tryz.func211, by decide, rfl, by kernel_rfl, by kernel_rfl, rfl⟩
/-- slices.ContainsFunc[[]hemiola/api.Voice,hemiola/api.Voice] -/
noncomputable def af215 : AF := ⟨9, .seq (.ops [⟨(some 4), none, .move (.c (.sc (.bool false)))⟩])
  (.seq (.ops [⟨(some 5), none, .move (.t 0)⟩,
    ⟨(some 6), none, .move (.t 1)⟩,
    ⟨(some 7), none, .call (.c (.fn (.func 275) [] [])) [(.t 5), (.t 6)]⟩,
    ⟨(some 8), none, .bin .geq (.t 7) (.c (.sc (.int .i64 (0))))⟩,
    ⟨(some 4), none, .move (.t 8)⟩])
  (.ret)),
  [.t 4]⟩
theorem ok215 : EntryOk Tryz.prog 215 af215 := ⟨Tryz.f215, _, Tryz.func215, by decide, rfl, by kernel_rfl, by kernel_rfl, rfl⟩
/-- hemiola/event.first -/
noncomputable def af219 : AF := ⟨15, .seq (.ops [⟨(some 2), none, .move (.c (.sc (.int .i64 (0))))⟩])
  (.seq (.seq (.ops [⟨(some 5), none, .move (.t 0)⟩,
    ⟨(some 6), none, .len (.t 5)⟩,
    ⟨(some 7), none, .move (.c (.sc (.int .i64 (0))))⟩])
  (.block 0 (.loop (.seq (.ops [⟨(some 8), none, .bin .lss (.t 7) (.t 6)⟩])
    (.seq (.cond (.t 8)
     (.skip)
     (.exit 0))
    (.seq (.block 1 (.seq (.ops [⟨(some 9), none, .iaddrS 1 (.t 5) (.t 7)⟩,
       ⟨(some 10), none, .load none (.t 9)⟩,
       ⟨(some 4), none, .move (.t 10)⟩])
     (.seq (.ops [⟨(some 11), none, .move (.t 4)⟩,
       ⟨(some 12), none, .bin .neq (.t 11) (.c (.sc (.int .i64 (0))))⟩])
     (.cond (.t 12)
      (.seq (.ops [⟨(some 13), none, .move (.t 4)⟩,
        ⟨(some 2), none, .move (.t 13)⟩])
      (.ret))
      (.skip)))))
    (.ops [⟨(some 14), none, .bin .add (.t 7) (.c (.sc (.int .i64 (1))))⟩,
      ⟨(some 7), none, .move (.t 14)⟩])))))))
  (.seq (.ops [⟨(some 2), none, .move (.c (.sc (.int .i64 (0))))⟩])
  (.ret))),
  [.t 2]⟩
theorem ok219 : EntryOk Tryz.prog 219 af219 := ⟨Tryz.f219, _, Tryz.func219, by decide, rfl, by kernel_rfl, by kernel_rfl, rfl⟩
/-- hemiola/event.strip -/
noncomputable def af223 : AF := ⟨35, .seq (.ops [⟨(some 1), none, .box (.t 0)⟩,
    ⟨(some 2), none, .alloc [(.sc (.int .i64 (0))), (.sc (.int .i64 (0))), (.sc (.int .i64 (0))), (.sc (.int .i64 (0))), (.sc (.int .i64 (0))), (.sl true .full 0 []), (.sl true .full 0 []), (.sc (.int .i64 (0))), (.sc (.int .i64 (0))), (.sc (.int .i64 (0))), (.sl true .full 0 []), (.sc (.int .i64 (0))), (.sc (.int .i64 (0)))]⟩])
  (.seq (.seq (.ops [⟨(some 4), none, .faddr 2 (.t 1)⟩,
    ⟨(some 5), none, .load none (.t 4)⟩,
    ⟨(some 6), none, .bin .eql (.t 5) (.c (.sc (.int .i64 (1))))⟩,
    ⟨(some 7), none, .move (.t 6)⟩,
    ⟨(some 8), (some (7, false)), .faddr 2 (.t 1)⟩,
    ⟨(some 9), (some (7, false)), .load none (.t 8)⟩,
    ⟨(some 10), (some (7, false)), .call (.c (.fn (.func 221) [] [])) [(.t 9)]⟩,
    ⟨(some 11), (some (7, false)), .un .not (.t 10)⟩,
    ⟨(some 12), none, .pick (.t 7) (.c (.sc (.bool true))) (.t 11)⟩])
  (.cond (.t 12)
   (.seq (.ops [⟨(some 13), none, .load (some 13) (.t 1)⟩,
     ⟨none, none, .store 13 (.t 2) (.t 13)⟩])
   (.ret))
   (.skip)))
  (.seq (.ops [⟨(some 14), none, .faddr 0 (.t 1)⟩,
    ⟨(some 15), none, .load (some 2) (.t 14)⟩,
    ⟨(some 16), none, .faddr 2 (.t 1)⟩,
    ⟨(some 17), none, .load none (.t 16)⟩,
    ⟨(some 18), none, .faddr 9 (.t 1)⟩,
    ⟨(some 19), none, .load none (.t 18)⟩,
    ⟨(some 20), none, .build [(.sc (.int .i64 (0))), (.sc (.int .i64 (0))), (.sc (.int .i64 (0))), (.sc (.int .i64 (0))), (.sc (.int .i64 (0))), (.sl true .full 0 []), (.sl true .full 0 []), (.sc (.int .i64 (0))), (.sc (.int .i64 (0))), (.sc (.int .i64 (0))), (.sl true .full 0 []), (.sc (.int .i64 (0))), (.sc (.int .i64 (0)))] [((0, 2), (.t 15)), ((2, 1), (.t 17)), ((9, 1), (.t 19))]⟩,
    ⟨(some 3), none, .alloc [(.sc (.int .i64 (0))), (.sc (.int .i64 (0))), (.sc (.int .i64 (0))), (.sc (.int .i64 (0))), (.sc (.int .i64 (0))), (.sl true .full 0 []), (.sl true .full 0 []), (.sc (.int .i64 (0))), (.sc (.int .i64 (0))), (.sc (.int .i64 (0))), (.sl true .full 0 []), (.sc (.int .i64 (0))), (.sc (.int .i64 (0)))]⟩,
    ⟨none, none, .store 13 (.t 3) (.t 20)⟩])
  (.seq (.seq (.ops [⟨(some 21), none, .faddr 2 (.t 1)⟩,
    ⟨(some 22), none, .load none (.t 21)⟩,
    ⟨(some 23), none, .bin .neq (.t 22) (.c (.sc (.int .i64 (3))))⟩])
  (.cond (.t 23)
   (.ops [⟨(some 24), none, .faddr 3 (.t 1)⟩,
     ⟨(some 25), none, .load (some 2) (.t 24)⟩,
     ⟨(some 26), none, .faddr 3 (.t 3)⟩,
     ⟨none, none, .store 2 (.t 26) (.t 25)⟩])
   (.skip)))
  (.seq (.seq (.ops [⟨(some 27), none, .faddr 2 (.t 1)⟩,
    ⟨(some 28), none, .load none (.t 27)⟩,
    ⟨(some 29), none, .bin .neq (.t 28) (.c (.sc (.int .i64 (4))))⟩])
  (.cond (.t 29)
   (.ops [⟨(some 30), none, .faddr 7 (.t 1)⟩,
     ⟨(some 31), none, .load none (.t 30)⟩,
     ⟨(some 32), none, .call (.c (.fn (.func 280) [] [])) [(.t 31)]⟩,
     ⟨(some 33), none, .faddr 7 (.t 3)⟩,
     ⟨none, none, .store 1 (.t 33) (.t 32)⟩])
   (.skip)))
  (.seq (.ops [⟨(some 34), none, .load (some 13) (.t 3)⟩,
    ⟨none, none, .store 13 (.t 2) (.t 34)⟩])
  (.ret)))))),
  [.c 2 (some 13)]⟩
theorem ok223 : EntryOk Tryz.prog 223 af223 := ⟨Tryz.f223, _, Tryz.func223, by decide, rfl, by kernel_rfl, by kernel_rfl, rfl⟩
/-- slices.IndexFunc[[]hemiola/api.Head,hemiola/api.Head] -/
noncomputable def af227 : AF := ⟨19, .seq (.ops [⟨(some 4), none, .move (.c (.sc (.int .i64 (0))))⟩])
  (.seq (.seq (.ops [⟨(some 6), none, .move (.t 0)⟩,
    ⟨(some 7), none, .len (.t 6)⟩,
    ⟨(some 8), none, .move (.c (.sc (.int .i64 (0))))⟩])
  (.block 0 (.loop (.seq (.ops [⟨(some 9), none, .bin .lss (.t 8) (.t 7)⟩])
    (.seq (.cond (.t 9)
     (.skip)
     (.exit 0))
    (.seq (.block 1 (.seq (.ops [⟨(some 10), none, .move (.t 8)⟩,
       ⟨(some 5), none, .move (.t 10)⟩])
     (.seq (.ops [⟨(some 11), none, .move (.t 1)⟩,
       ⟨(some 12), none, .move (.t 0)⟩,
       ⟨(some 13), none, .move (.t 5)⟩,
       ⟨(some 14), none, .iaddrS 5 (.t 12) (.t 13)⟩,
       ⟨(some 15), none, .load (some 5) (.t 14)⟩,
       ⟨(some 16), none, .call (.t 11) [(.t 15)]⟩])
     (.cond (.t 16)
      (.seq (.ops [⟨(some 17), none, .move (.t 5)⟩,
        ⟨(some 4), none, .move (.t 17)⟩])
      (.ret))
      (.skip)))))
    (.ops [⟨(some 18), none, .bin .add (.t 8) (.c (.sc (.int .i64 (1))))⟩,
      ⟨(some 8), none, .move (.t 18)⟩])))))))
  (.seq (.ops [⟨(some 4), none, .move (.c (.sc (.int .i64 (-1))))⟩])
  (.ret))),
  [.t 4]⟩
theorem ok227 : EntryOk Tryz.prog 227 af227 := ⟨Tryz.f227, _, Tryz.func227, by decide, rfl, by kernel_rfl, by kernel_rfl, rfl⟩
/-- hemiola/score.events -/
noncomputable def af231 : AF := ⟨66, .seq (.ops [⟨(some 4), none, .box (.t 0)⟩,
    ⟨(some 8), none, .move (.c (.sl true .full 0 []))⟩])
  (.seq (.seq (.ops [⟨(some 9), none, .move (.t 1)⟩,
    ⟨(some 10), none, .bin .lss (.t 9) (.c (.sc (.int .i64 (0))))⟩,
    ⟨(some 11), none, .move (.t 10)⟩,
    ⟨(some 12), (some (11, false)), .move (.t 1)⟩,
    ⟨(some 13), (some (11, false)), .faddr 3 (.t 4)⟩,
    ⟨(some 14), (some (11, false)), .load none (.t 13)⟩,
    ⟨(some 15), (some (11, false)), .len (.t 14)⟩,
    ⟨(some 16), (some (11, false)), .bin .geq (.t 12) (.t 15)⟩,
    ⟨(some 17), none, .pick (.t 11) (.c (.sc (.bool true))) (.t 16)⟩,
    ⟨(some 18), none, .move (.t 17)⟩,
    ⟨(some 19), (some (18, false)), .move (.t 2)⟩,
    ⟨(some 20), (some (18, false)), .bin .lss (.t 19) (.c (.sc (.int .i64 (0))))⟩,
    ⟨(some 21), none, .pick (.t 18) (.c (.sc (.bool true))) (.t 20)⟩,
    ⟨(some 22), none, .move (.t 21)⟩,
    ⟨(some 23), (some (22, false)), .move (.t 2)⟩,
    ⟨(some 24), (some (22, false)), .faddr 3 (.t 4)⟩,
    ⟨(some 25), (some (22, false)), .load none (.t 24)⟩,
    ⟨(some 26), (some (22, false)), .move (.t 1)⟩,
    ⟨(some 27), (some (22, false)), .iaddrS 22 (.t 25) (.t 26)⟩,
    ⟨(some 28), (some (22, false)), .faddr 21 (.t 27)⟩,
    ⟨(some 29), (some (22, false)), .load none (.t 28)⟩,
    ⟨(some 30), (some (22, false)), .len (.t 29)⟩,
    ⟨(some 31), (some (22, false)), .bin .geq (.t 23) (.t 30)⟩,
    ⟨(some 32), none, .pick (.t 22) (.c (.sc (.bool true))) (.t 31)⟩,
    ⟨(some 33), none, .move (.t 32)⟩,
    ⟨(some 34), (some (33, false)), .move (.t 3)⟩,
    ⟨(some 35), (some (33, false)), .bin .lss (.t 34) (.c (.sc (.int .i64 (0))))⟩,
    ⟨(some 36), none, .pick (.t 33) (.c (.sc (.bool true))) (.t 35)⟩,
    ⟨(some 37), none, .move (.t 36)⟩,
    ⟨(some 38), (some (37, false)), .move (.t 3)⟩,
    ⟨(some 39), (some (37, false)), .faddr 3 (.t 4)⟩,
    ⟨(some 40), (some (37, false)), .load none (.t 39)⟩,
    ⟨(some 41), (some (37, false)), .move (.t 1)⟩,
    ⟨(some 42), (some (37, false)), .iaddrS 22 (.t 40) (.t 41)⟩,
    ⟨(some 43), (some (37, false)), .faddr 21 (.t 42)⟩,
    ⟨(some 44), (some (37, false)), .load none (.t 43)⟩,
    ⟨(some 45), (some (37, false)), .move (.t 2)⟩,
    ⟨(some 46), (some (37, false)), .iaddrS 2 (.t 44) (.t 45)⟩,
    ⟨(some 47), (some (37, false)), .faddr 1 (.t 46)⟩,
    ⟨(some 48), (some (37, false)), .load none (.t 47)⟩,
    ⟨(some 49), (some (37, false)), .len (.t 48)⟩,
    ⟨(some 50), (some (37, false)), .bin .geq (.t 38) (.t 49)⟩,
    ⟨(some 51), none, .pick (.t 37) (.c (.sc (.bool true))) (.t 50)⟩])
  (.cond (.t 51)
   (.seq (.ops [⟨(some 8), none, .move (.c (.sl true .full 0 []))⟩])
   (.ret))
   (.skip)))
  (.seq (.ops [⟨(some 52), none, .faddr 3 (.t 4)⟩,
    ⟨(some 53), none, .load none (.t 52)⟩,
    ⟨(some 54), none, .move (.t 1)⟩,
    ⟨(some 55), none, .iaddrS 22 (.t 53) (.t 54)⟩,
    ⟨(some 56), none, .faddr 21 (.t 55)⟩,
    ⟨(some 57), none, .load none (.t 56)⟩,
    ⟨(some 58), none, .move (.t 2)⟩,
    ⟨(some 59), none, .iaddrS 2 (.t 57) (.t 58)⟩,
    ⟨(some 60), none, .faddr 1 (.t 59)⟩,
    ⟨(some 61), none, .load none (.t 60)⟩,
    ⟨(some 62), none, .move (.t 3)⟩,
    ⟨(some 63), none, .iaddrS 2 (.t 61) (.t 62)⟩,
    ⟨(some 64), none, .faddr 0 (.t 63)⟩,
    ⟨(some 65), none, .load none (.t 64)⟩,
    ⟨(some 8), none, .move (.t 65)⟩])
  (.ret))),
  [.t 8]⟩
theorem ok231 : EntryOk Tryz.prog 231 af231 := ⟨Tryz.f231, _, Tryz.func231, by decide, rfl, by kernel_rfl, by kernel_rfl, rfl⟩
/-- slices.AppendSeq[[]hemiola/api.Note,hemiola/api.Note] -/
noncomputable def af252 : AF := ⟨13, .seq (.ops [⟨(some 2), none, .box (.t 0)⟩,
    ⟨(some 4), none, .move (.c (.sl true .full 0 []))⟩])
  (.seq (.seq (.ops [⟨(some 6), none, .move (.t 1)⟩])
  (.block 0 (.range (.t 6) #[7]
    (.ops [⟨(some 5), none, .alloc [(.sc (.int .i64 (0))), (.sc (.int .i64 (0))), (.sc (.int .i64 (0))), (.sc (.int .i64 (0))), (.sc (.int .i64 (0))), (.sc (.int .i64 (0))), (.sc (.int .i64 (0))), (.sc (.int .i64 (0))), (.sc (.int .i64 (0)))]⟩,
      ⟨none, none, .store 9 (.t 5) (.t 7)⟩])
    (.block 1 (.ops [⟨(some 8), none, .load none (.t 2)⟩,
       ⟨(some 9), none, .load (some 9) (.t 5)⟩,
       ⟨(some 10), none, .buildSl 9 [(.t 9)]⟩,
       ⟨(some 11), none, .appendM 9 72 (.t 8) (.t 10)⟩,
       ⟨none, none, .store 1 (.t 2) (.t 11)⟩]))
    (codeAt (Tryz.f252.body.getD .skip) [1, 0, 1, 0, 0]) (codeAt (Tryz.f252.body.getD .skip) [1, 0, 1, 0, 1]))))
  (.seq (.ops [⟨(some 12), none, .load none (.t 2)⟩,
    ⟨(some 4), none, .move (.t 12)⟩])
  (.ret))),
  [.t 4]⟩
theorem ok252 : EntryOk Tryz.prog 252 af252 := ⟨Tryz.f252, _, Tryz.func252, by decide, rfl, by kernel_rfl, by kernel_rfl, rfl⟩
/-- math/bits.Div64 -/
noncomputable def af256 : AF := ⟨135, .seq (.ops [⟨(some 6), none, .move (.c (.sc (.int .u64 (0))))⟩,
    ⟨(some 7), none, .move (.c (.sc (.int .u64 (0))))⟩])
  (.seq (.seq (.ops [⟨(some 19), none, .move (.t 2)⟩,
    ⟨(some 20), none, .bin .eql (.t 19) (.c (.sc (.int .u64 (0))))⟩])
  (.cond (.t 20)
   (.ops [⟨(some 21), none, .bad⟩,
     ⟨none, none, .bad⟩])
   (.skip)))
  (.seq (.seq (.ops [⟨(some 22), none, .move (.t 2)⟩,
    ⟨(some 23), none, .move (.t 0)⟩,
    ⟨(some 24), none, .bin .leq (.t 22) (.t 23)⟩])
  (.cond (.t 24)
   (.ops [⟨(some 25), none, .bad⟩,
     ⟨none, none, .bad⟩])
   (.skip)))
  (.seq (.seq (.ops [⟨(some 26), none, .move (.t 0)⟩,
    ⟨(some 27), none, .bin .eql (.t 26) (.c (.sc (.int .u64 (0))))⟩])
  (.cond (.t 27)
   (.seq (.draw [⟨true, [1], [], ⟨(some 28), none, .move (.t 1)⟩⟩,
     ⟨true, [2], [], ⟨(some 29), none, .move (.t 2)⟩⟩,
     ⟨true, [28, 29], [], ⟨(some 30), none, .bin .quo (.t 28) (.t 29)⟩⟩,
     ⟨true, [1], [], ⟨(some 31), none, .move (.t 1)⟩⟩,
     ⟨true, [2], [], ⟨(some 32), none, .move (.t 2)⟩⟩,
     ⟨true, [31, 32], [], ⟨(some 33), none, .bin .rem (.t 31) (.t 32)⟩⟩,
     ⟨true, [30], [], ⟨(some 6), none, .move (.t 30)⟩⟩]
     [⟨(some 7), none, .move (.t 33)⟩])
   (.ret))
   (.skip)))
  (.seq (.ops [⟨(some 34), none, .move (.t 2)⟩,
    ⟨(some 35), none, .call (.c (.fn (.func 297) [] [])) [(.t 34)]⟩,
    ⟨(some 36), none, .convI .u64 (.t 35)⟩,
    ⟨(some 8), none, .move (.t 36)⟩])
  (.seq (.ops [⟨(some 37), none, .move (.t 2)⟩,
    ⟨(some 38), none, .move (.t 8)⟩,
    ⟨(some 39), none, .bin .shl (.t 37) (.t 38)⟩,
    ⟨(some 2), none, .move (.t 39)⟩])
  (.seq (.ops [⟨(some 40), none, .move (.t 2)⟩,
    ⟨(some 41), none, .bin .shr (.t 40) (.c (.sc (.int .u64 (32))))⟩,
    ⟨(some 9), none, .move (.t 41)⟩])
  (.seq (.ops [⟨(some 42), none, .move (.t 2)⟩,
    ⟨(some 43), none, .bin .and (.t 42) (.c (.sc (.int .u64 (4294967295))))⟩,
    ⟨(some 10), none, .move (.t 43)⟩])
  (.seq (.ops [⟨(some 44), none, .move (.t 0)⟩,
    ⟨(some 45), none, .move (.t 8)⟩,
    ⟨(some 46), none, .bin .shl (.t 44) (.t 45)⟩,
    ⟨(some 47), none, .move (.t 1)⟩,
    ⟨(some 48), none, .move (.t 8)⟩,
    ⟨(some 49), none, .bin .sub (.c (.sc (.int .u64 (64)))) (.t 48)⟩,
    ⟨(some 50), none, .bin .shr (.t 47) (.t 49)⟩,
    ⟨(some 51), none, .bin .or (.t 46) (.t 50)⟩,
    ⟨(some 11), none, .move (.t 51)⟩])
  (.seq (.ops [⟨(some 52), none, .move (.t 1)⟩,
    ⟨(some 53), none, .move (.t 8)⟩,
    ⟨(some 54), none, .bin .shl (.t 52) (.t 53)⟩,
    ⟨(some 12), none, .move (.t 54)⟩])
  (.seq (.ops [⟨(some 55), none, .move (.t 12)⟩,
    ⟨(some 56), none, .bin .shr (.t 55) (.c (.sc (.int .u64 (32))))⟩,
    ⟨(some 13), none, .move (.t 56)⟩])
  (.seq (.ops [⟨(some 57), none, .move (.t 12)⟩,
    ⟨(some 58), none, .bin .and (.t 57) (.c (.sc (.int .u64 (4294967295))))⟩,
    ⟨(some 14), none, .move (.t 58)⟩])
  (.seq (.ops [⟨(some 59), none, .move (.t 11)⟩,
    ⟨(some 60), none, .move (.t 9)⟩,
    ⟨(some 61), none, .bin .quo (.t 59) (.t 60)⟩,
    ⟨(some 15), none, .move (.t 61)⟩])
  (.seq (.ops [⟨(some 62), none, .move (.t 11)⟩,
    ⟨(some 63), none, .move (.t 15)⟩,
    ⟨(some 64), none, .move (.t 9)⟩,
    ⟨(some 65), none, .bin .mul (.t 63) (.t 64)⟩,
    ⟨(some 66), none, .bin .sub (.t 62) (.t 65)⟩,
    ⟨(some 16), none, .move (.t 66)⟩])
  (.seq (.block 0 (.loop (.seq (.seq (.ops [⟨(some 67), none, .move (.t 15)⟩,
      ⟨(some 68), none, .bin .geq (.t 67) (.c (.sc (.int .u64 (4294967296))))⟩,
      ⟨(some 69), none, .move (.t 68)⟩,
      ⟨(some 70), (some (69, false)), .move (.t 15)⟩,
      ⟨(some 71), (some (69, false)), .move (.t 10)⟩,
      ⟨(some 72), (some (69, false)), .bin .mul (.t 70) (.t 71)⟩,
      ⟨(some 73), (some (69, false)), .move (.t 16)⟩,
      ⟨(some 74), (some (69, false)), .bin .mul (.c (.sc (.int .u64 (4294967296)))) (.t 73)⟩,
      ⟨(some 75), (some (69, false)), .move (.t 13)⟩,
      ⟨(some 76), (some (69, false)), .bin .add (.t 74) (.t 75)⟩,
      ⟨(some 77), (some (69, false)), .bin .gtr (.t 72) (.t 76)⟩,
      ⟨(some 78), none, .pick (.t 69) (.c (.sc (.bool true))) (.t 77)⟩])
    (.cond (.t 78)
     (.skip)
     (.exit 0)))
    (.block 1 (.seq (.ops [⟨(some 79), none, .move (.t 15)⟩,
       ⟨(some 80), none, .bin .sub (.t 79) (.c (.sc (.int .u64 (1))))⟩,
       ⟨(some 15), none, .move (.t 80)⟩])
     (.seq (.ops [⟨(some 81), none, .move (.t 16)⟩,
       ⟨(some 82), none, .move (.t 9)⟩,
       ⟨(some 83), none, .bin .add (.t 81) (.t 82)⟩,
       ⟨(some 16), none, .move (.t 83)⟩])
     (.seq (.ops [⟨(some 84), none, .move (.t 16)⟩,
       ⟨(some 85), none, .bin .geq (.t 84) (.c (.sc (.int .u64 (4294967296))))⟩])
     (.cond (.t 85)
      (.exit 0)
      (.skip)))))))))
  (.seq (.ops [⟨(some 86), none, .move (.t 11)⟩,
    ⟨(some 87), none, .bin .mul (.t 86) (.c (.sc (.int .u64 (4294967296))))⟩,
    ⟨(some 88), none, .move (.t 13)⟩,
    ⟨(some 89), none, .bin .add (.t 87) (.t 88)⟩,
    ⟨(some 90), none, .move (.t 15)⟩,
    ⟨(some 91), none, .move (.t 2)⟩,
    ⟨(some 92), none, .bin .mul (.t 90) (.t 91)⟩,
    ⟨(some 93), none, .bin .sub (.t 89) (.t 92)⟩,
    ⟨(some 17), none, .move (.t 93)⟩])
  (.seq (.ops [⟨(some 94), none, .move (.t 17)⟩,
    ⟨(some 95), none, .move (.t 9)⟩,
    ⟨(some 96), none, .bin .quo (.t 94) (.t 95)⟩,
    ⟨(some 18), none, .move (.t 96)⟩])
  (.seq (.ops [⟨(some 97), none, .move (.t 17)⟩,
    ⟨(some 98), none, .move (.t 18)⟩,
    ⟨(some 99), none, .move (.t 9)⟩,
    ⟨(some 100), none, .bin .mul (.t 98) (.t 99)⟩,
    ⟨(some 101), none, .bin .sub (.t 97) (.t 100)⟩,
    ⟨(some 16), none, .move (.t 101)⟩])
  (.seq (.block 2 (.loop (.seq (.seq (.ops [⟨(some 102), none, .move (.t 18)⟩,
      ⟨(some 103), none, .bin .geq (.t 102) (.c (.sc (.int .u64 (4294967296))))⟩,
      ⟨(some 104), none, .move (.t 103)⟩,
      ⟨(some 105), (some (104, false)), .move (.t 18)⟩,
      ⟨(some 106), (some (104, false)), .move (.t 10)⟩,
      ⟨(some 107), (some (104, false)), .bin .mul (.t 105) (.t 106)⟩,
      ⟨(some 108), (some (104, false)), .move (.t 16)⟩,
      ⟨(some 109), (some (104, false)), .bin .mul (.c (.sc (.int .u64 (4294967296)))) (.t 108)⟩,
      ⟨(some 110), (some (104, false)), .move (.t 14)⟩,
      ⟨(some 111), (some (104, false)), .bin .add (.t 109) (.t 110)⟩,
      ⟨(some 112), (some (104, false)), .bin .gtr (.t 107) (.t 111)⟩,
      ⟨(some 113), none, .pick (.t 104) (.c (.sc (.bool true))) (.t 112)⟩])
    (.cond (.t 113)
     (.skip)
     (.exit 2)))
    (.block 3 (.seq (.ops [⟨(some 114), none, .move (.t 18)⟩,
       ⟨(some 115), none, .bin .sub (.t 114) (.c (.sc (.int .u64 (1))))⟩,
       ⟨(some 18), none, .move (.t 115)⟩])
     (.seq (.ops [⟨(some 116), none, .move (.t 16)⟩,
       ⟨(some 117), none, .move (.t 9)⟩,
       ⟨(some 118), none, .bin .add (.t 116) (.t 117)⟩,
       ⟨(some 16), none, .move (.t 118)⟩])
     (.seq (.ops [⟨(some 119), none, .move (.t 16)⟩,
       ⟨(some 120), none, .bin .geq (.t 119) (.c (.sc (.int .u64 (4294967296))))⟩])
     (.cond (.t 120)
      (.exit 2)
      (.skip)))))))))
  (.seq (.ops [⟨(some 121), none, .move (.t 15)⟩,
    ⟨(some 122), none, .bin .mul (.t 121) (.c (.sc (.int .u64 (4294967296))))⟩,
    ⟨(some 123), none, .move (.t 18)⟩,
    ⟨(some 124), none, .bin .add (.t 122) (.t 123)⟩,
    ⟨(some 125), none, .move (.t 17)⟩,
    ⟨(some 126), none, .bin .mul (.t 125) (.c (.sc (.int .u64 (4294967296))))⟩,
    ⟨(some 127), none, .move (.t 14)⟩,
    ⟨(some 128), none, .bin .add (.t 126) (.t 127)⟩,
    ⟨(some 129), none, .move (.t 18)⟩,
    ⟨(some 130), none, .move (.t 2)⟩,
    ⟨(some 131), none, .bin .mul (.t 129) (.t 130)⟩,
    ⟨(some 132), none, .bin .sub (.t 128) (.t 131)⟩,
    ⟨(some 133), none, .move (.t 8)⟩,
    ⟨(some 134), none, .bin .shr (.t 132) (.t 133)⟩,
    ⟨(some 6), none, .move (.t 124)⟩,
    ⟨(some 7), none, .move (.t 134)⟩])
  (.ret)))))))))))))))))))),
  [.t 6, .t 7]⟩
theorem ok256 : EntryOk Tryz.prog 256 af256 := ⟨Tryz.f256, _, Tryz.func256, by decide, rfl, by kernel_rfl, by kernel_rfl, rfl⟩
/-- hemiola/voice.inner -/
noncomputable def af260 : AF := ⟨62, .seq (.ops [⟨(some 1), none, .box (.t 0)⟩,
    ⟨(some 2), none, .move (.c (.sl true .full 0 []))⟩,
    ⟨(some 3), none, .move (.c (.sc (.int .i64 (0))))⟩])
  (.seq (.seq (.ops [⟨(some 12), none, .faddr 0 (.t 1)⟩,
    ⟨(some 13), none, .load none (.t 12)⟩,
    ⟨(some 14), none, .len (.t 13)⟩,
    ⟨(some 15), none, .move (.c (.sc (.int .i64 (0))))⟩])
  (.block 0 (.loop (.seq (.ops [⟨(some 16), none, .bin .lss (.t 15) (.t 14)⟩])
    (.seq (.cond (.t 16)
     (.skip)
     (.exit 0))
    (.seq (.block 1 (.seq (.ops [⟨(some 17), none, .move (.t 15)⟩,
       ⟨(some 18), none, .iaddrS 13 (.t 13) (.t 15)⟩,
       ⟨(some 19), none, .load (some 13) (.t 18)⟩,
       ⟨(some 5), none, .alloc [(.sc (.int .i64 (0))), (.sc (.int .i64 (0))), (.sc (.int .i64 (0))), (.sc (.int .i64 (0))), (.sc (.int .i64 (0))), (.sl true .full 0 []), (.sl true .full 0 []), (.sc (.int .i64 (0))), (.sc (.int .i64 (0))), (.sc (.int .i64 (0))), (.sl true .full 0 []), (.sc (.int .i64 (0))), (.sc (.int .i64 (0)))]⟩,
       ⟨(some 4), none, .move (.t 17)⟩,
       ⟨none, none, .store 13 (.t 5) (.t 19)⟩])
     (.seq (.seq (.ops [⟨(some 20), none, .load (some 13) (.t 5)⟩,
       ⟨(some 21), none, .call (.c (.fn (.func 146) [] [])) [(.t 20)]⟩,
       ⟨(some 6), none, .move (.t 21)⟩])
     (.seq (.ops [⟨(some 22), none, .move (.t 6)⟩,
       ⟨(some 23), none, .bin .neq (.t 22) (.c (.sc (.int .i64 (0))))⟩])
     (.cond (.t 23)
      (.seq (.ops [⟨(some 24), none, .move (.t 6)⟩,
        ⟨(some 2), none, .move (.c (.sl true .full 0 []))⟩,
        ⟨(some 3), none, .move (.t 24)⟩])
      (.ret))
      (.skip))))
     (.seq (.ops [⟨(some 25), none, .faddr 2 (.t 5)⟩,
       ⟨(some 26), none, .load none (.t 25)⟩,
       ⟨(some 27), none, .bin .eql (.t 26) (.c (.sc (.int .i64 (3))))⟩,
       ⟨(some 28), none, .move (.t 27)⟩,
       ⟨(some 29), (some (28, true)), .move (.t 4)⟩,
       ⟨(some 30), (some (28, true)), .bin .gtr (.t 29) (.c (.sc (.int .i64 (0))))⟩,
       ⟨(some 31), (some (28, true)), .move (.t 30)⟩,
       ⟨(some 32), (some (31, false)), .faddr 0 (.t 1)⟩,
       ⟨(some 33), (some (31, false)), .load none (.t 32)⟩,
       ⟨(some 34), (some (31, false)), .len (.t 33)⟩,
       ⟨(some 35), (some (31, false)), .bin .gtr (.t 34) (.c (.sc (.int .i64 (1))))⟩,
       ⟨(some 36), (some (28, true)), .pick (.t 31) (.c (.sc (.bool true))) (.t 35)⟩,
       ⟨(some 37), none, .pick (.t 28) (.t 36) (.c (.sc (.bool false)))⟩])
     (.cond (.t 37)
      (.seq (.ops [⟨(some 2), none, .move (.c (.sl true .full 0 []))⟩,
        ⟨(some 3), none, .move (.c (.sc (.int .i64 (11))))⟩])
      (.ret))
      (.skip))))))
    (.ops [⟨(some 38), none, .bin .add (.t 15) (.c (.sc (.int .i64 (1))))⟩,
      ⟨(some 15), none, .move (.t 38)⟩])))))))
  (.seq (.ops [⟨(some 39), none, .faddr 0 (.t 1)⟩,
    ⟨(some 40), none, .load none (.t 39)⟩,
    ⟨(some 41), none, .call (.c (.fn (.func 298) [] [])) [(.t 40)]⟩,
    ⟨(some 7), none, .move (.t 41)⟩])
  (.seq (.ops [⟨(some 43), none, .faddr 1 (.t 1)⟩,
    ⟨(some 44), none, .load none (.t 43)⟩,
    ⟨(some 45), none, .move (.t 7)⟩,
    ⟨(some 46), none, .call (.c (.fn (.func 299) [] [])) [(.t 44), (.t 45)]⟩,
    ⟨(some 42), none, .move (.t 46)⟩,
    ⟨(some 47), none, .extract 0 (.t 42)⟩,
    ⟨(some 48), none, .extract 1 (.t 42)⟩,
    ⟨(some 8), none, .move (.t 47)⟩,
    ⟨(some 9), none, .move (.t 48)⟩])
  (.seq (.seq (.ops [⟨(some 49), none, .move (.t 9)⟩,
    ⟨(some 50), none, .bin .neq (.t 49) (.c (.sc (.int .i64 (0))))⟩])
  (.cond (.t 50)
   (.seq (.ops [⟨(some 51), none, .move (.t 9)⟩,
     ⟨(some 2), none, .move (.c (.sl true .full 0 []))⟩,
     ⟨(some 3), none, .move (.t 51)⟩])
   (.ret))
   (.skip)))
  (.seq (.seq (.ops [⟨(some 53), none, .faddr 1 (.t 1)⟩,
    ⟨(some 54), none, .load none (.t 53)⟩,
    ⟨(some 55), none, .move (.t 7)⟩,
    ⟨(some 56), none, .call (.c (.fn (.func 300) [] [])) [(.t 54), (.t 55)]⟩,
    ⟨(some 52), none, .move (.t 56)⟩,
    ⟨(some 57), none, .extract 0 (.t 52)⟩,
    ⟨(some 58), none, .extract 1 (.t 52)⟩,
    ⟨(some 10), none, .move (.t 57)⟩,
    ⟨(some 11), none, .move (.t 58)⟩])
  (.seq (.ops [⟨(some 59), none, .move (.t 11)⟩,
    ⟨(some 60), none, .bin .neq (.t 59) (.c (.sc (.int .i64 (0))))⟩])
  (.cond (.t 60)
   (.seq (.ops [⟨(some 2), none, .move (.c (.sl true .full 0 []))⟩,
     ⟨(some 3), none, .move (.c (.sc (.int .i64 (21))))⟩])
   (.ret))
   (.skip))))
  (.seq (.ops [⟨(some 61), none, .move (.t 8)⟩,
    ⟨(some 2), none, .move (.t 61)⟩,
    ⟨(some 3), none, .move (.c (.sc (.int .i64 (0))))⟩])
  (.ret))))))),
  [.t 2, .t 3]⟩
theorem ok260 : EntryOk Tryz.prog 260 af260 := ⟨Tryz.f260, _, Tryz.func260, by decide, rfl, by kernel_rfl, by kernel_rfl, rfl⟩
/-- hemiola/key.place -/
noncomputable def af264 : AF := ⟨16, .seq (.ops [⟨(some 2), none, .move (.c (.sc (.int .i64 (0))))⟩])
  (.seq (.seq (.ops [⟨(some 5), none, .call (.c (.fn (.func 302) [] [])) []⟩,
    ⟨(some 6), none, .move (.c (.sc (.int .i64 (0))))⟩])
  (.block 0 (.loop (.seq (.ops [⟨(some 7), none, .bin .lss (.t 6) (.c (.sc (.int .i64 (7))))⟩])
    (.seq (.cond (.t 7)
     (.skip)
     (.exit 0))
    (.seq (.block 1 (.seq (.ops [⟨(some 8), none, .move (.t 6)⟩,
       ⟨(some 9), none, .idxA 1 7 none (.t 5) (.t 6)⟩,
       ⟨(some 3), none, .move (.t 8)⟩,
       ⟨(some 4), none, .move (.t 9)⟩])
     (.seq (.ops [⟨(some 10), none, .move (.t 4)⟩,
       ⟨(some 11), none, .move (.t 0)⟩,
       ⟨(some 12), none, .bin .eql (.t 10) (.t 11)⟩])
     (.cond (.t 12)
      (.seq (.ops [⟨(some 13), none, .move (.t 3)⟩,
        ⟨(some 14), none, .bin .sub (.t 13) (.c (.sc (.int .i64 (1))))⟩,
        ⟨(some 2), none, .move (.t 14)⟩])
      (.ret))
      (.skip)))))
    (.ops [⟨(some 15), none, .bin .add (.t 6) (.c (.sc (.int .i64 (1))))⟩,
      ⟨(some 6), none, .move (.t 15)⟩])))))))
  (.seq (.ops [⟨(some 2), none, .move (.c (.sc (.int .i64 (0))))⟩])
  (.ret))),
  [.t 2]⟩
theorem ok264 : EntryOk Tryz.prog 264 af264 := ⟨Tryz.f264, _, Tryz.func264, by decide, rfl, by kernel_rfl, by kernel_rfl, rfl⟩
/-- slices.IndexFunc[[]hemiola/api.Cell,hemiola/api.Cell] -/
noncomputable def af274 : AF := ⟨19, .seq (.ops [⟨(some 4), none, .move (.c (.sc (.int .i64 (0))))⟩])
  (.seq (.seq (.ops [⟨(some 6), none, .move (.t 0)⟩,
    ⟨(some 7), none, .len (.t 6)⟩,
    ⟨(some 8), none, .move (.c (.sc (.int .i64 (0))))⟩])
  (.block 0 (.loop (.seq (.ops [⟨(some 9), none, .bin .lss (.t 8) (.t 7)⟩])
    (.seq (.cond (.t 9)
     (.skip)
     (.exit 0))
    (.seq (.block 1 (.seq (.ops [⟨(some 10), none, .move (.t 8)⟩,
       ⟨(some 5), none, .move (.t 10)⟩])
     (.seq (.ops [⟨(some 11), none, .move (.t 1)⟩,
       ⟨(some 12), none, .move (.t 0)⟩,
       ⟨(some 13), none, .move (.t 5)⟩,
       ⟨(some 14), none, .iaddrS 2 (.t 12) (.t 13)⟩,
       ⟨(some 15), none, .load (some 2) (.t 14)⟩,
       ⟨(some 16), none, .call (.t 11) [(.t 15)]⟩])
     (.cond (.t 16)
      (.seq (.ops [⟨(some 17), none, .move (.t 5)⟩,
        ⟨(some 4), none, .move (.t 17)⟩])
      (.ret))
      (.skip)))))
    (.ops [⟨(some 18), none, .bin .add (.t 8) (.c (.sc (.int .i64 (1))))⟩,
      ⟨(some 8), none, .move (.t 18)⟩])))))))
  (.seq (.ops [⟨(some 4), none, .move (.c (.sc (.int .i64 (-1))))⟩])
  (.ret))),
  [.t 4]⟩
theorem ok274 : EntryOk Tryz.prog 274 af274 := ⟨Tryz.f274, _, Tryz.func274, by decide, rfl, by kernel_rfl, by kernel_rfl, rfl⟩
/-- slices.Equal[[]hemiola/api.Grace,hemiola/api.Grace] -/
noncomputable def af278 : AF := ⟨26, .seq (.ops [⟨(some 4), none, .move (.c (.sc (.bool false)))⟩])
  (.seq (.seq (.ops [⟨(some 6), none, .move (.t 0)⟩,
    ⟨(some 7), none, .len (.t 6)⟩,
    ⟨(some 8), none, .move (.t 1)⟩,
    ⟨(some 9), none, .len (.t 8)⟩,
    ⟨(some 10), none, .bin .neq (.t 7) (.t 9)⟩])
  (.cond (.t 10)
   (.seq (.ops [⟨(some 4), none, .move (.c (.sc (.bool false)))⟩])
   (.ret))
   (.skip)))
  (.seq (.seq (.ops [⟨(some 11), none, .move (.t 0)⟩,
    ⟨(some 12), none, .len (.t 11)⟩,
    ⟨(some 13), none, .move (.c (.sc (.int .i64 (0))))⟩])
  (.block 0 (.loop (.seq (.ops [⟨(some 14), none, .bin .lss (.t 13) (.t 12)⟩])
    (.seq (.cond (.t 14)
     (.skip)
     (.exit 0))
    (.seq (.block 1 (.seq (.ops [⟨(some 15), none, .move (.t 13)⟩,
       ⟨(some 5), none, .move (.t 15)⟩])
     (.seq (.draw [⟨false, [0], [], ⟨(some 16), none, .move (.t 0)⟩⟩,
       ⟨false, [5], [], ⟨(some 17), none, .move (.t 5)⟩⟩,
       ⟨false, [16, 17], [], ⟨(some 18), none, .iaddrS 5 (.t 16) (.t 17)⟩⟩,
       ⟨false, [18], [], ⟨(some 19), none, .load (some 5) (.t 18)⟩⟩,
       ⟨false, [1], [], ⟨(some 20), none, .move (.t 1)⟩⟩,
       ⟨false, [5], [], ⟨(some 21), none, .move (.t 5)⟩⟩,
       ⟨false, [20, 21], [], ⟨(some 22), none, .iaddrS 5 (.t 20) (.t 21)⟩⟩,
       ⟨false, [22], [], ⟨(some 23), none, .load (some 5) (.t 22)⟩⟩]
       [⟨(some 24), none, .eqC [.i, .i, .i, .i, .b] true (.t 19) (.t 23)⟩])
     (.cond (.t 24)
      (.seq (.ops [⟨(some 4), none, .move (.c (.sc (.bool false)))⟩])
      (.ret))
      (.skip)))))
    (.ops [⟨(some 25), none, .bin .add (.t 13) (.c (.sc (.int .i64 (1))))⟩,
      ⟨(some 13), none, .move (.t 25)⟩])))))))
  (.seq (.ops [⟨(some 4), none, .move (.c (.sc (.bool true)))⟩])
  (.ret)))),
  [.t 4]⟩
theorem ok278 : EntryOk Tryz.prog 278 af278 := ⟨Tryz.f278, _, Tryz.func278, by decide, rfl, by kernel_rfl, by kernel_rfl, rfl⟩
/-- hemiola/voice.written -/
noncomputable def af298 : AF := ⟨26, .seq (.ops [⟨(some 2), none, .move (.c (.sl true .full 0 []))⟩])
  (.seq (.ops [⟨(some 6), none, .move (.t 0)⟩,
    ⟨(some 7), none, .len (.t 6)⟩,
    ⟨(some 8), none, .mkSl 1 8 [(.sc (.int .i64 (0)))] (.t 7) (.t 7)⟩,
    ⟨(some 3), none, .move (.t 8)⟩])
  (.seq (.seq (.ops [⟨(some 9), none, .move (.t 0)⟩,
    ⟨(some 10), none, .len (.t 9)⟩,
    ⟨(some 11), none, .move (.c (.sc (.int .i64 (0))))⟩])
  (.block 0 (.loop (.seq (.ops [⟨(some 12), none, .bin .lss (.t 11) (.t 10)⟩])
    (.seq (.cond (.t 12)
     (.skip)
     (.exit 0))
    (.seq (.block 1 (.seq (.ops [⟨(some 13), none, .move (.t 11)⟩,
       ⟨(some 14), none, .iaddrS 13 (.t 9) (.t 11)⟩,
       ⟨(some 15), none, .load (some 13) (.t 14)⟩,
       ⟨(some 5), none, .alloc [(.sc (.int .i64 (0))), (.sc (.int .i64 (0))), (.sc (.int .i64 (0))), (.sc (.int .i64 (0))), (.sc (.int .i64 (0))), (.sl true .full 0 []), (.sl true .full 0 []), (.sc (.int .i64 (0))), (.sc (.int .i64 (0))), (.sc (.int .i64 (0))), (.sl true .full 0 []), (.sc (.int .i64 (0))), (.sc (.int .i64 (0)))]⟩,
       ⟨(some 4), none, .move (.t 13)⟩,
       ⟨none, none, .store 13 (.t 5) (.t 15)⟩])
     (.ops [⟨(some 17), none, .move (.t 3)⟩,
       ⟨(some 18), none, .move (.t 4)⟩,
       ⟨(some 19), none, .load (some 13) (.t 5)⟩,
       ⟨(some 20), none, .call (.c (.fn (.func 307) [] [])) [(.t 19)]⟩,
       ⟨(some 16), none, .move (.t 20)⟩,
       ⟨(some 21), none, .extract 0 (.t 16)⟩,
       ⟨(some 22), none, .extract 1 (.t 16)⟩,
       ⟨(some 23), none, .iaddrS 1 (.t 17) (.t 18)⟩,
       ⟨none, none, .store 1 (.t 23) (.t 21)⟩])))
    (.ops [⟨(some 24), none, .bin .add (.t 11) (.c (.sc (.int .i64 (1))))⟩,
      ⟨(some 11), none, .move (.t 24)⟩])))))))
  (.seq (.ops [⟨(some 25), none, .move (.t 3)⟩,
    ⟨(some 2), none, .move (.t 25)⟩])
  (.ret)))),
  [.t 2]⟩
theorem ok298 : EntryOk Tryz.prog 298 af298 := ⟨Tryz.f298, _, Tryz.func298, by decide, rfl, by kernel_rfl, by kernel_rfl, rfl⟩
/-- hemiola/key.sharps -/
noncomputable def af302 : AF := ⟨2, .seq (.ops [⟨(some 0), none, .alloc [(.sc (.int .i64 (0))), (.sc (.int .i64 (0))), (.sc (.int .i64 (0))), (.sc (.int .i64 (0))), (.sc (.int .i64 (0))), (.sc (.int .i64 (0))), (.sc (.int .i64 (0)))]⟩])
  (.seq (.ops [⟨(some 1), none, .build [(.sc (.int .i64 (0))), (.sc (.int .i64 (0))), (.sc (.int .i64 (0))), (.sc (.int .i64 (0))), (.sc (.int .i64 (0))), (.sc (.int .i64 (0))), (.sc (.int .i64 (0)))] [((0, 1), (.c (.sc (.int .i64 (3))))), ((1, 1), (.c (.sc (.int .i64 (0))))), ((2, 1), (.c (.sc (.int .i64 (4))))), ((3, 1), (.c (.sc (.int .i64 (1))))), ((4, 1), (.c (.sc (.int .i64 (5))))), ((5, 1), (.c (.sc (.int .i64 (2))))), ((6, 1), (.c (.sc (.int .i64 (6)))))]⟩,
    ⟨none, none, .store 7 (.t 0) (.t 1)⟩])
  (.ret)),
  [.c 0 (some 7)]⟩
theorem ok302 : EntryOk Tryz.prog 302 af302 := ⟨Tryz.f302, _, Tryz.func302, by decide, rfl, by kernel_rfl, by kernel_rfl, rfl⟩
/-- hemiola/duration.Ticks -/
noncomputable def af312 : AF := ⟨12, .seq (.ops [⟨(some 1), none, .box (.t 0)⟩,
    ⟨(some 2), none, .move (.c (.sc (.int .i64 (0))))⟩,
    ⟨(some 3), none, .move (.c (.sc (.int .i64 (0))))⟩])
  (.seq (.seq (.ops [⟨(some 5), none, .load (some 2) (.t 1)⟩,
    ⟨(some 6), none, .call (.c (.fn (.func 224) [] [])) [(.t 5)]⟩,
    ⟨(some 4), none, .move (.t 6)⟩])
  (.seq (.ops [⟨(some 7), none, .move (.t 4)⟩,
    ⟨(some 8), none, .bin .neq (.t 7) (.c (.sc (.int .i64 (0))))⟩])
  (.cond (.t 8)
   (.seq (.ops [⟨(some 9), none, .move (.t 4)⟩,
     ⟨(some 2), none, .move (.c (.sc (.int .i64 (0))))⟩,
     ⟨(some 3), none, .move (.t 9)⟩])
   (.ret))
   (.skip))))
  (.seq (.ops [⟨(some 10), none, .load (some 2) (.t 1)⟩,
    ⟨(some 11), none, .call (.c (.fn (.func 318) [] [])) [(.t 10)]⟩,
    ⟨(some 2), none, .move (.t 11)⟩,
    ⟨(some 3), none, .move (.c (.sc (.int .i64 (0))))⟩])
  (.ret))),
  [.t 2, .t 3]⟩
theorem ok312 : EntryOk Tryz.prog 312 af312 := ⟨Tryz.f312, _, Tryz.func312, by decide, rfl, by kernel_rfl, by kernel_rfl, rfl⟩
end Go.Proofs.YtmbchdfgckmpoaaGreat
