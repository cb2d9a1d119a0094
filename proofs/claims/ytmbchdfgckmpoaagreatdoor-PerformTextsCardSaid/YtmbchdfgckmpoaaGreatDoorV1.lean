/- Resolved code, printed by a program. -/
import Derived.Test.YtmbchdfgckmpoaaGreatDoorPE21
import Derived.Test.YtmbchdfgckmpoaaGreatDoorProg
namespace Go.Proofs.YtmbchdfgckmpoaaGreatDoor
open Go.PE

/-- hemiola/perform.Perform -/
noncomputable def af10 : AF := ⟨84, .seq (.ops [⟨(some 1), none, .box (.t 0)⟩,
    ⟨(some 2), none, .move (.c (.sl true .full 0 []))⟩,
    ⟨(some 3), none, .move (.c (.sc (.int .i64 (0))))⟩])
  (.seq (.seq (.ops [⟨(some 12), none, .load (some 6) (.t 1)⟩,
    ⟨(some 13), none, .call (.c (.fn (.func 23) [] [])) [(.t 12)]⟩,
    ⟨(some 14), none, .un .not (.t 13)⟩])
  (.cond (.t 14)
   (.seq (.ops [⟨(some 2), none, .move (.c (.sl true .full 0 []))⟩,
     ⟨(some 3), none, .move (.c (.sc (.int .i64 (24))))⟩])
   (.ret))
   (.skip)))
  (.seq (.ops [⟨(some 16), none, .load (some 6) (.t 1)⟩,
    ⟨(some 17), none, .call (.c (.fn (.func 24) [] [])) [(.t 16)]⟩,
    ⟨(some 15), none, .move (.t 17)⟩,
    ⟨(some 18), none, .extract 0 (.t 15)⟩,
    ⟨(some 19), none, .extract 1 (.t 15)⟩,
    ⟨(some 4), none, .move (.t 18)⟩,
    ⟨(some 5), none, .move (.t 19)⟩])
  (.seq (.seq (.ops [⟨(some 20), none, .move (.t 5)⟩,
    ⟨(some 21), none, .bin .neq (.t 20) (.c (.sc (.int .i64 (0))))⟩])
  (.cond (.t 21)
   (.seq (.ops [⟨(some 22), none, .move (.t 5)⟩,
     ⟨(some 2), none, .move (.c (.sl true .full 0 []))⟩,
     ⟨(some 3), none, .move (.t 22)⟩])
   (.ret))
   (.skip)))
  (.seq (.ops [⟨(some 24), none, .load (some 6) (.t 1)⟩,
    ⟨(some 25), none, .move (.t 4)⟩,
    ⟨(some 26), none, .call (.c (.fn (.func 25) [] [])) [(.t 24), (.t 25)]⟩,
    ⟨(some 23), none, .move (.t 26)⟩,
    ⟨(some 27), none, .extract 0 (.t 23)⟩,
    ⟨(some 28), none, .extract 1 (.t 23)⟩,
    ⟨(some 6), none, .move (.t 27)⟩,
    ⟨(some 5), none, .move (.t 28)⟩])
  (.seq (.seq (.ops [⟨(some 29), none, .move (.t 5)⟩,
    ⟨(some 30), none, .bin .neq (.t 29) (.c (.sc (.int .i64 (0))))⟩])
  (.cond (.t 30)
   (.seq (.ops [⟨(some 31), none, .move (.t 5)⟩,
     ⟨(some 2), none, .move (.c (.sl true .full 0 []))⟩,
     ⟨(some 3), none, .move (.t 31)⟩])
   (.ret))
   (.skip)))
  (.seq (.ops [⟨(some 33), none, .load (some 6) (.t 1)⟩,
    ⟨(some 34), none, .move (.t 4)⟩,
    ⟨(some 35), none, .call (.c (.fn (.func 26) [] [])) [(.t 33), (.t 34)]⟩,
    ⟨(some 32), none, .move (.t 35)⟩,
    ⟨(some 36), none, .extract 0 (.t 32)⟩,
    ⟨(some 37), none, .extract 1 (.t 32)⟩,
    ⟨(some 7), none, .move (.t 36)⟩,
    ⟨(some 5), none, .move (.t 37)⟩])
  (.seq (.seq (.ops [⟨(some 38), none, .move (.t 5)⟩,
    ⟨(some 39), none, .bin .neq (.t 38) (.c (.sc (.int .i64 (0))))⟩])
  (.cond (.t 39)
   (.seq (.ops [⟨(some 40), none, .move (.t 5)⟩,
     ⟨(some 2), none, .move (.c (.sl true .full 0 []))⟩,
     ⟨(some 3), none, .move (.t 40)⟩])
   (.ret))
   (.skip)))
  (.seq (.draw [⟨false, [1], [4], ⟨(some 41), none, .load (some 6) (.t 1)⟩⟩,
    ⟨false, [4], [], ⟨(some 42), none, .move (.t 4)⟩⟩,
    ⟨false, [7], [], ⟨(some 43), none, .move (.t 7)⟩⟩,
    ⟨false, [1], [], ⟨(some 44), none, .load (some 6) (.t 1)⟩⟩,
    ⟨true, [44], [], ⟨(some 45), none, .call (.c (.fn (.func 27) [] [])) [(.t 44)]⟩⟩,
    ⟨false, [], [4], ⟨(some 46), none, .mkMap⟩⟩,
    ⟨false, [], [4], ⟨(some 47), none, .mkMap⟩⟩]
    [⟨(some 48), none, .build [(.sc (.string ⟨#[]⟩)), (.sc (.bool false)), (.sl true .full 0 []), (.sl true .full 0 []), (.sl true .full 0 []), (.sl true .full 0 []), (.sl true .full 0 []), (.sl true .full 0 []), (.sl true .full 0 []), (.sc (.pointer none)), (.sc (.map none)), (.sc (.map none)), (.sc (.map none))] [((0, 6), (.t 41)), ((6, 1), (.t 42)), ((9, 1), (.t 43)), ((10, 1), (.t 45)), ((11, 1), (.t 46)), ((12, 1), (.t 47))]⟩,
    ⟨(some 49), none, .box (.t 48)⟩,
    ⟨(some 8), none, .move (.t 49)⟩])
  (.seq (.ops [⟨(some 51), none, .move (.t 8)⟩,
    ⟨(some 52), none, .load (some 6) (.t 1)⟩,
    ⟨(some 53), none, .move (.t 4)⟩,
    ⟨(some 54), none, .call (.c (.fn (.func 28) [] [])) [(.t 52), (.t 53)]⟩,
    ⟨(some 50), none, .move (.t 54)⟩,
    ⟨(some 55), none, .extract 0 (.t 50)⟩,
    ⟨(some 56), none, .extract 1 (.t 50)⟩,
    ⟨(some 57), none, .nilCheck (.t 51)⟩,
    ⟨(some 58), none, .faddr 7 (.t 57)⟩,
    ⟨none, none, .store 1 (.t 58) (.t 55)⟩])
  (.seq (.ops [⟨(some 60), none, .move (.t 8)⟩,
    ⟨(some 61), none, .load (some 6) (.t 1)⟩,
    ⟨(some 62), none, .call (.c (.fn (.func 29) [] [])) [(.t 61)]⟩,
    ⟨(some 59), none, .move (.t 62)⟩,
    ⟨(some 63), none, .extract 0 (.t 59)⟩,
    ⟨(some 64), none, .extract 1 (.t 59)⟩,
    ⟨(some 65), none, .nilCheck (.t 60)⟩,
    ⟨(some 66), none, .faddr 8 (.t 65)⟩,
    ⟨none, none, .store 1 (.t 66) (.t 63)⟩])
  (.seq (.ops [⟨(some 9), none, .move (.c (.sl true .full 0 []))⟩])
  (.seq (.seq (.ops [⟨(some 67), none, .move (.t 6)⟩,
    ⟨(some 68), none, .len (.t 67)⟩,
    ⟨(some 69), none, .move (.c (.sc (.int .i64 (0))))⟩])
  (.block 0 (.loop (.seq (.ops [⟨(some 70), none, .bin .lss (.t 69) (.t 68)⟩])
    (.seq (.cond (.t 70)
     (.skip)
     (.exit 0))
    (.seq (.block 1 (.seq (.ops [⟨(some 71), none, .iaddrS 9 (.t 67) (.t 69)⟩,
       ⟨(some 72), none, .load (some 9) (.t 71)⟩,
       ⟨(some 11), none, .alloc [(.sc (.int .i64 (0))), (.sc (.int .i64 (0))), (.sc (.int .i64 (0))), (.sc (.int .i64 (0))), (.sc (.int .i64 (0))), (.sc (.int .i64 (0))), (.sc (.int .i64 (0))), (.sc (.int .i64 (0))), (.sc (.int .i64 (0)))]⟩,
       ⟨none, none, .store 9 (.t 11) (.t 72)⟩])
     (.seq (.ops [⟨(some 73), none, .move (.t 9)⟩,
       ⟨(some 74), none, .move (.t 8)⟩,
       ⟨(some 75), none, .load (some 9) (.t 11)⟩,
       ⟨(some 76), none, .call (.c (.fn (.func 30) [] [])) [(.t 74), (.t 75)]⟩,
       ⟨(some 77), none, .append 7 56 (.t 73) (.t 76)⟩,
       ⟨(some 9), none, .move (.t 77)⟩])
     (.seq (.ops [⟨(some 78), none, .move (.t 9)⟩,
       ⟨(some 79), none, .len (.t 78)⟩,
       ⟨(some 80), none, .bin .gtr (.t 79) (.c (.sc (.int .i64 (262144))))⟩])
     (.cond (.t 80)
      (.seq (.ops [⟨(some 2), none, .move (.c (.sl true .full 0 []))⟩,
        ⟨(some 3), none, .move (.c (.sc (.int .i64 (9))))⟩])
      (.ret))
      (.skip))))))
    (.ops [⟨(some 81), none, .bin .add (.t 69) (.c (.sc (.int .i64 (1))))⟩,
      ⟨(some 69), none, .move (.t 81)⟩])))))))
  (.seq (.ops [⟨(some 82), none, .move (.t 9)⟩,
    ⟨(some 83), none, .call (.c (.fn (.func 31) [] [])) [(.t 82)]⟩,
    ⟨(some 2), none, .move (.t 83)⟩,
    ⟨(some 3), none, .move (.c (.sc (.int .i64 (0))))⟩])
  (.ret)))))))))))))),
  [.t 2, .t 3]⟩
theorem ok10 : EntryOk Tryz.prog 10 af10 := ⟨Tryz.f10, _, Tryz.func10, by decide, rfl, by kernel_rfl, by kernel_rfl, rfl⟩
/-- hemiola/unfold.Unfold -/
noncomputable def af24 : AF := ⟨30, .seq (.ops [⟨(some 1), none, .box (.t 0)⟩,
    ⟨(some 2), none, .alloc [(.sl true .full 0 [])]⟩,
    ⟨(some 3), none, .alloc [(.sc (.int .i64 (0)))]⟩])
  (.seq (.seq (.ops [⟨(some 7), none, .load (some 6) (.t 1)⟩,
    ⟨(some 8), none, .call (.c (.fn (.func 23) [] [])) [(.t 7)]⟩,
    ⟨(some 9), none, .un .not (.t 8)⟩])
  (.cond (.t 9)
   (.seq (.ops [⟨none, none, .store 1 (.t 2) (.c (.sl true .full 0 []))⟩,
     ⟨none, none, .store 1 (.t 3) (.c (.sc (.int .i64 (24))))⟩])
   (.ret))
   (.skip)))
  (.seq (.ops [⟨(some 4), none, .alloc [(.sl true .full 0 [])]⟩])
  (.seq (.ops [⟨(some 10), none, .mkMap⟩,
    ⟨(some 5), none, .alloc [(.sc (.map none))]⟩,
    ⟨none, none, .store 1 (.t 5) (.t 10)⟩])
  (.seq (.seq (.ops [⟨(some 11), none, .load (some 6) (.t 1)⟩,
    ⟨(some 12), none, .call (.c (.fn (.func 44) [] [])) [(.t 11)]⟩])
  (.block 0 (.range (.t 12) #[13]
    (.ops [⟨(some 6), none, .move (.t 13)⟩])
    (.block 1 (.seq (.seq (.ops [⟨(some 14), none, .load none (.t 4)⟩,
       ⟨(some 15), none, .len (.t 14)⟩,
       ⟨(some 16), none, .bin .eql (.t 15) (.c (.sc (.int .i64 (8192))))⟩])
     (.cond (.t 16)
      (.seq (.ops [⟨none, none, .store 1 (.t 2) (.c (.sl true .full 0 []))⟩,
        ⟨none, none, .store 1 (.t 3) (.c (.sc (.int .i64 (9))))⟩])
      (.ret))
      (.skip)))
     (.seq (.ops [⟨(some 17), none, .load none (.t 4)⟩,
       ⟨(some 18), none, .move (.t 6)⟩,
       ⟨(some 19), none, .load none (.t 5)⟩,
       ⟨(some 20), none, .move (.t 6)⟩,
       ⟨(some 21), none, .lookup [.i] false (.sc (.int .i64 (0))) (.t 19) (.t 20) false⟩,
       ⟨(some 22), none, .build [(.sc (.int .i64 (0))), (.sc (.int .i64 (0)))] [((0, 1), (.t 18)), ((1, 1), (.t 21))]⟩,
       ⟨(some 23), none, .buildSl 2 [(.t 22)]⟩,
       ⟨(some 24), none, .append 2 16 (.t 17) (.t 23)⟩,
       ⟨none, none, .store 1 (.t 4) (.t 24)⟩])
     (.ops [⟨(some 25), none, .load none (.t 5)⟩,
       ⟨(some 26), none, .move (.t 6)⟩,
       ⟨(some 27), none, .lookup [.i] false (.sc (.int .i64 (0))) (.t 25) (.t 26) false⟩,
       ⟨(some 28), none, .bin .add (.t 27) (.c (.sc (.int .i64 (1))))⟩,
       ⟨none, none, .mapUp [.i] false (.t 25) (.t 26) (.t 28)⟩]))))
    (codeAt (Tryz.f24.body.getD .skip) [1, 1, 1, 1, 0, 1, 0, 0]) (codeAt (Tryz.f24.body.getD .skip) [1, 1, 1, 1, 0, 1, 0, 1]))))
  (.seq (.ops [⟨(some 29), none, .load none (.t 4)⟩,
    ⟨none, none, .store 1 (.t 2) (.t 29)⟩,
    ⟨none, none, .store 1 (.t 3) (.c (.sc (.int .i64 (0))))⟩])
  (.ret)))))),
  [.c 2 none, .c 3 none]⟩
theorem ok24 : EntryOk Tryz.prog 24 af24 := ⟨Tryz.f24, _, Tryz.func24, by decide, rfl, by kernel_rfl, by kernel_rfl, rfl⟩
/-- hemiola/unfold.Onsets -/
noncomputable def af28 : AF := ⟨50, .seq (.ops [⟨(some 2), none, .box (.t 0)⟩,
    ⟨(some 4), none, .move (.c (.sl true .full 0 []))⟩,
    ⟨(some 5), none, .move (.c (.sc (.int .i64 (0))))⟩])
  (.seq (.seq (.ops [⟨(some 12), none, .load (some 6) (.t 2)⟩,
    ⟨(some 13), none, .move (.t 1)⟩,
    ⟨(some 14), none, .call (.c (.fn (.func 58) [] [])) [(.t 12), (.t 13)]⟩,
    ⟨(some 6), none, .move (.t 14)⟩])
  (.seq (.ops [⟨(some 15), none, .move (.t 6)⟩,
    ⟨(some 16), none, .bin .neq (.t 15) (.c (.sc (.int .i64 (0))))⟩])
  (.cond (.t 16)
   (.seq (.ops [⟨(some 17), none, .move (.t 6)⟩,
     ⟨(some 4), none, .move (.c (.sl true .full 0 []))⟩,
     ⟨(some 5), none, .move (.t 17)⟩])
   (.ret))
   (.skip))))
  (.seq (.ops [⟨(some 18), none, .buildSl 1 [(.c (.sc (.int .i64 (0))))]⟩,
    ⟨(some 7), none, .move (.t 18)⟩])
  (.seq (.seq (.ops [⟨(some 19), none, .move (.t 1)⟩,
    ⟨(some 20), none, .len (.t 19)⟩,
    ⟨(some 21), none, .move (.c (.sc (.int .i64 (0))))⟩])
  (.block 0 (.loop (.seq (.ops [⟨(some 22), none, .bin .lss (.t 21) (.t 20)⟩])
    (.seq (.cond (.t 22)
     (.skip)
     (.exit 0))
    (.seq (.block 1 (.seq (.ops [⟨(some 23), none, .move (.t 21)⟩,
       ⟨(some 24), none, .iaddrS 2 (.t 19) (.t 21)⟩,
       ⟨(some 25), none, .load (some 2) (.t 24)⟩,
       ⟨(some 9), none, .alloc [(.sc (.int .i64 (0))), (.sc (.int .i64 (0)))]⟩,
       ⟨(some 8), none, .move (.t 23)⟩,
       ⟨none, none, .store 2 (.t 9) (.t 25)⟩])
     (.seq (.ops [⟨(some 27), none, .faddr 3 (.t 2)⟩,
       ⟨(some 28), none, .load none (.t 27)⟩,
       ⟨(some 29), none, .faddr 0 (.t 9)⟩,
       ⟨(some 30), none, .load none (.t 29)⟩,
       ⟨(some 31), none, .iaddrS 22 (.t 28) (.t 30)⟩,
       ⟨(some 32), none, .load (some 22) (.t 31)⟩,
       ⟨(some 33), none, .call (.c (.fn (.func 55) [] [])) [(.t 32)]⟩,
       ⟨(some 26), none, .move (.t 33)⟩,
       ⟨(some 34), none, .extract 0 (.t 26)⟩,
       ⟨(some 35), none, .extract 1 (.t 26)⟩,
       ⟨(some 10), none, .move (.t 34)⟩,
       ⟨(some 11), none, .move (.t 35)⟩])
     (.seq (.seq (.ops [⟨(some 36), none, .move (.t 11)⟩,
       ⟨(some 37), none, .bin .neq (.t 36) (.c (.sc (.int .i64 (0))))⟩])
     (.cond (.t 37)
      (.seq (.ops [⟨(some 38), none, .move (.t 11)⟩,
        ⟨(some 4), none, .move (.c (.sl true .full 0 []))⟩,
        ⟨(some 5), none, .move (.t 38)⟩])
      (.ret))
      (.skip)))
     (.ops [⟨(some 39), none, .move (.t 7)⟩,
       ⟨(some 40), none, .move (.t 7)⟩,
       ⟨(some 41), none, .move (.t 8)⟩,
       ⟨(some 42), none, .iaddrS 1 (.t 40) (.t 41)⟩,
       ⟨(some 43), none, .load none (.t 42)⟩,
       ⟨(some 44), none, .move (.t 10)⟩,
       ⟨(some 45), none, .bin .add (.t 43) (.t 44)⟩,
       ⟨(some 46), none, .buildSl 1 [(.t 45)]⟩,
       ⟨(some 47), none, .append 1 8 (.t 39) (.t 46)⟩,
       ⟨(some 7), none, .move (.t 47)⟩])))))
    (.ops [⟨(some 48), none, .bin .add (.t 21) (.c (.sc (.int .i64 (1))))⟩,
      ⟨(some 21), none, .move (.t 48)⟩])))))))
  (.seq (.ops [⟨(some 49), none, .move (.t 7)⟩,
    ⟨(some 4), none, .move (.t 49)⟩,
    ⟨(some 5), none, .move (.c (.sc (.int .i64 (0))))⟩])
  (.ret))))),
  [.t 4, .t 5]⟩
theorem ok28 : EntryOk Tryz.prog 28 af28 := ⟨Tryz.f28, _, Tryz.func28, by decide, rfl, by kernel_rfl, by kernel_rfl, rfl⟩
/-- hemiola/perform.velocity -/
noncomputable def af32 : AF := ⟨32, .seq (.ops [⟨(some 2), none, .box (.t 0)⟩,
    ⟨(some 4), none, .move (.c (.sc (.int .i64 (0))))⟩])
  (.seq (.ops [⟨(some 6), none, .move (.t 1)⟩,
    ⟨(some 7), none, .faddr 16 (.t 2)⟩,
    ⟨(some 8), none, .load none (.t 7)⟩,
    ⟨(some 9), none, .call (.t 6) [(.t 8)]⟩,
    ⟨(some 5), none, .move (.t 9)⟩])
  (.seq (.seq (.ops [⟨(some 10), none, .faddr 0 (.t 2)⟩,
    ⟨(some 11), none, .faddr 7 (.t 10)⟩,
    ⟨(some 12), none, .load none (.t 11)⟩,
    ⟨(some 13), none, .bin .and (.t 12) (.c (.sc (.int .i64 (4))))⟩,
    ⟨(some 14), none, .bin .neq (.t 13) (.c (.sc (.int .i64 (0))))⟩])
  (.cond (.t 14)
   (.ops [⟨(some 15), none, .move (.t 5)⟩,
     ⟨(some 16), none, .bin .add (.t 15) (.c (.sc (.int .i64 (16))))⟩,
     ⟨(some 5), none, .move (.t 16)⟩])
   (.skip)))
  (.seq (.seq (.ops [⟨(some 17), none, .faddr 0 (.t 2)⟩,
    ⟨(some 18), none, .faddr 7 (.t 17)⟩,
    ⟨(some 19), none, .load none (.t 18)⟩,
    ⟨(some 20), none, .bin .and (.t 19) (.c (.sc (.int .i64 (8))))⟩,
    ⟨(some 21), none, .bin .neq (.t 20) (.c (.sc (.int .i64 (0))))⟩])
  (.cond (.t 21)
   (.ops [⟨(some 22), none, .move (.t 5)⟩,
     ⟨(some 23), none, .bin .add (.t 22) (.c (.sc (.int .i64 (16))))⟩,
     ⟨(some 5), none, .move (.t 23)⟩])
   (.skip)))
  (.seq (.seq (.ops [⟨(some 24), none, .faddr 0 (.t 2)⟩,
    ⟨(some 25), none, .faddr 9 (.t 24)⟩,
    ⟨(some 26), none, .load none (.t 25)⟩,
    ⟨(some 27), none, .bin .eql (.t 26) (.c (.sc (.int .i64 (9))))⟩])
  (.cond (.t 27)
   (.ops [⟨(some 28), none, .move (.t 5)⟩,
     ⟨(some 29), none, .bin .add (.t 28) (.c (.sc (.int .i64 (32))))⟩,
     ⟨(some 5), none, .move (.t 29)⟩])
   (.skip)))
  (.seq (.ops [⟨(some 30), none, .move (.t 5)⟩,
    ⟨(some 31), none, .mm false [(.t 30), (.c (.sc (.int .i64 (127))))]⟩,
    ⟨(some 4), none, .move (.t 31)⟩])
  (.ret)))))),
  [.t 4]⟩
theorem ok32 : EntryOk Tryz.prog 32 af32 := ⟨Tryz.f32, _, Tryz.func32, by decide, rfl, by kernel_rfl, by kernel_rfl, rfl⟩
/-- hemiola/timeline.Starts -/
noncomputable def af45 : AF := ⟨9, .seq (.ops [⟨(some 1), none, .box (.t 0)⟩,
    ⟨(some 2), none, .move (.c (.sl true .full 0 []))⟩,
    ⟨(some 3), none, .move (.c (.sc (.int .i64 (0))))⟩])
  (.seq (.seq (.ops [⟨(some 4), none, .load (some 6) (.t 1)⟩,
    ⟨(some 5), none, .call (.c (.fn (.func 23) [] [])) [(.t 4)]⟩,
    ⟨(some 6), none, .un .not (.t 5)⟩])
  (.cond (.t 6)
   (.seq (.ops [⟨(some 2), none, .move (.c (.sl true .full 0 []))⟩,
     ⟨(some 3), none, .move (.c (.sc (.int .i64 (24))))⟩])
   (.ret))
   (.skip)))
  (.seq (.ops [⟨(some 7), none, .load (some 6) (.t 1)⟩,
    ⟨(some 8), none, .call (.c (.fn (.func 113) [] [])) [(.t 7)]⟩,
    ⟨(some 2), none, .move (.t 8)⟩,
    ⟨(some 3), none, .move (.c (.sc (.int .i64 (0))))⟩])
  (.ret))),
  [.t 2, .t 3]⟩
theorem ok45 : EntryOk Tryz.prog 45 af45 := ⟨Tryz.f45, _, Tryz.func45, by decide, rfl, by kernel_rfl, by kernel_rfl, rfl⟩
/-- hemiola/tempo.New$1 -/
noncomputable def af49 : AF := ⟨15, .seq (.ops [⟨(some 2), none, .box (.t 0)⟩,
    ⟨(some 3), none, .move (.c (.sc (.bool false)))⟩])
  (.seq (.ops [⟨(some 4), none, .faddr 0 (.t 2)⟩,
    ⟨(some 5), none, .load none (.t 4)⟩,
    ⟨(some 6), none, .bin .lss (.t 5) (.c (.sc (.int .i64 (0))))⟩,
    ⟨(some 7), none, .move (.t 6)⟩,
    ⟨(some 8), (some (7, false)), .faddr 0 (.t 2)⟩,
    ⟨(some 9), (some (7, false)), .load none (.t 8)⟩,
    ⟨(some 10), (some (7, false)), .faddr 3 (.t 1)⟩,
    ⟨(some 11), (some (7, false)), .load none (.t 10)⟩,
    ⟨(some 12), (some (7, false)), .len (.t 11)⟩,
    ⟨(some 13), (some (7, false)), .bin .geq (.t 9) (.t 12)⟩,
    ⟨(some 14), none, .pick (.t 7) (.c (.sc (.bool true))) (.t 13)⟩,
    ⟨(some 3), none, .move (.t 14)⟩])
  (.ret)),
  [.t 3]⟩
theorem ok49 : EntryOk Tryz.prog 49 af49 := ⟨Tryz.f49, _, Tryz.func49, by decide, rfl, by kernel_rfl, by kernel_rfl, rfl⟩
/-- hemiola/tempo.value -/
noncomputable def af53 : AF := ⟨61, .seq (.ops [⟨(some 6), none, .move (.c (.sc (.int .i64 (0))))⟩])
  (.seq (.ops [⟨(some 12), none, .move (.t 0)⟩,
    ⟨(some 13), none, .move (.t 1)⟩,
    ⟨(some 14), none, .iaddrS 3 (.t 12) (.t 13)⟩,
    ⟨(some 15), none, .load (some 3) (.t 14)⟩,
    ⟨(some 7), none, .alloc [(.sc (.int .i64 (0))), (.sc (.int .i64 (0))), (.sc (.bool false))]⟩,
    ⟨none, none, .store 3 (.t 7) (.t 15)⟩])
  (.seq (.seq (.ops [⟨(some 16), none, .faddr 2 (.t 7)⟩,
    ⟨(some 17), none, .load none (.t 16)⟩,
    ⟨(some 18), none, .un .not (.t 17)⟩,
    ⟨(some 19), none, .move (.t 18)⟩,
    ⟨(some 20), (some (19, false)), .move (.t 1)⟩,
    ⟨(some 21), (some (19, false)), .bin .add (.t 20) (.c (.sc (.int .i64 (1))))⟩,
    ⟨(some 22), (some (19, false)), .move (.t 0)⟩,
    ⟨(some 23), (some (19, false)), .len (.t 22)⟩,
    ⟨(some 24), (some (19, false)), .bin .eql (.t 21) (.t 23)⟩,
    ⟨(some 25), none, .pick (.t 19) (.c (.sc (.bool true))) (.t 24)⟩])
  (.cond (.t 25)
   (.seq (.ops [⟨(some 26), none, .faddr 1 (.t 7)⟩,
     ⟨(some 27), none, .load none (.t 26)⟩,
     ⟨(some 6), none, .move (.t 27)⟩])
   (.ret))
   (.skip)))
  (.seq (.ops [⟨(some 28), none, .move (.t 0)⟩,
    ⟨(some 29), none, .move (.t 1)⟩,
    ⟨(some 30), none, .bin .add (.t 29) (.c (.sc (.int .i64 (1))))⟩,
    ⟨(some 31), none, .iaddrS 3 (.t 28) (.t 30)⟩,
    ⟨(some 32), none, .load (some 3) (.t 31)⟩,
    ⟨(some 8), none, .alloc [(.sc (.int .i64 (0))), (.sc (.int .i64 (0))), (.sc (.bool false))]⟩,
    ⟨none, none, .store 3 (.t 8) (.t 32)⟩])
  (.seq (.draw [⟨false, [8], [], ⟨(some 33), none, .faddr 1 (.t 8)⟩⟩,
    ⟨false, [33], [], ⟨(some 34), none, .load none (.t 33)⟩⟩,
    ⟨false, [7], [], ⟨(some 35), none, .faddr 1 (.t 7)⟩⟩,
    ⟨false, [35], [], ⟨(some 36), none, .load none (.t 35)⟩⟩,
    ⟨false, [34, 36], [], ⟨(some 37), none, .bin .sub (.t 34) (.t 36)⟩⟩,
    ⟨false, [2], [], ⟨(some 38), none, .move (.t 2)⟩⟩,
    ⟨false, [7], [], ⟨(some 39), none, .faddr 0 (.t 7)⟩⟩,
    ⟨false, [39], [], ⟨(some 40), none, .load none (.t 39)⟩⟩,
    ⟨false, [38, 40], [], ⟨(some 41), none, .bin .sub (.t 38) (.t 40)⟩⟩,
    ⟨false, [37, 41], [], ⟨(some 42), none, .bin .mul (.t 37) (.t 41)⟩⟩,
    ⟨false, [8], [], ⟨(some 43), none, .faddr 0 (.t 8)⟩⟩,
    ⟨false, [43], [], ⟨(some 44), none, .load none (.t 43)⟩⟩,
    ⟨false, [7], [], ⟨(some 45), none, .faddr 0 (.t 7)⟩⟩,
    ⟨false, [45], [], ⟨(some 46), none, .load none (.t 45)⟩⟩,
    ⟨false, [44, 46], [], ⟨(some 47), none, .bin .sub (.t 44) (.t 46)⟩⟩,
    ⟨false, [42], [], ⟨(some 9), none, .move (.t 42)⟩⟩]
    [⟨(some 10), none, .move (.t 47)⟩])
  (.seq (.ops [⟨(some 48), none, .move (.t 9)⟩,
    ⟨(some 49), none, .move (.t 10)⟩,
    ⟨(some 50), none, .bin .quo (.t 48) (.t 49)⟩,
    ⟨(some 11), none, .move (.t 50)⟩])
  (.seq (.seq (.ops [⟨(some 51), none, .move (.t 9)⟩,
    ⟨(some 52), none, .move (.t 10)⟩,
    ⟨(some 53), none, .bin .rem (.t 51) (.t 52)⟩,
    ⟨(some 54), none, .bin .lss (.t 53) (.c (.sc (.int .i64 (0))))⟩])
  (.cond (.t 54)
   (.ops [⟨(some 55), none, .move (.t 11)⟩,
     ⟨(some 56), none, .bin .sub (.t 55) (.c (.sc (.int .i64 (1))))⟩,
     ⟨(some 11), none, .move (.t 56)⟩])
   (.skip)))
  (.seq (.ops [⟨(some 57), none, .faddr 1 (.t 7)⟩,
    ⟨(some 58), none, .load none (.t 57)⟩,
    ⟨(some 59), none, .move (.t 11)⟩,
    ⟨(some 60), none, .bin .add (.t 58) (.t 59)⟩,
    ⟨(some 6), none, .move (.t 60)⟩])
  (.ret)))))))),
  [.t 6]⟩
theorem ok53 : EntryOk Tryz.prog 53 af53 := ⟨Tryz.f53, _, Tryz.func53, by decide, rfl, by kernel_rfl, by kernel_rfl, rfl⟩
/-- hemiola/voice.Lengths -/
noncomputable def af57 : AF := ⟨11, .seq (.ops [⟨(some 2), none, .box (.t 0)⟩,
    ⟨(some 4), none, .move (.c (.sl true .full 0 []))⟩,
    ⟨(some 5), none, .move (.c (.sc (.int .i64 (0))))⟩])
  (.seq (.ops [⟨(some 6), none, .load (some 2) (.t 2)⟩,
    ⟨(some 7), none, .move (.t 1)⟩,
    ⟨(some 8), none, .call (.c (.fn (.func 125) [] [])) [(.t 6), (.t 7)]⟩,
    ⟨(some 9), none, .extract 0 (.t 8)⟩,
    ⟨(some 10), none, .extract 1 (.t 8)⟩,
    ⟨(some 4), none, .move (.t 9)⟩,
    ⟨(some 5), none, .move (.t 10)⟩])
  (.ret)),
  [.t 4, .t 5]⟩
theorem ok57 : EntryOk Tryz.prog 57 af57 := ⟨Tryz.f57, _, Tryz.func57, by decide, rfl, by kernel_rfl, by kernel_rfl, rfl⟩
/-- (*hemiola/perform.player).time -/
noncomputable def af61 : AF := ⟨111, .seq (.ops [⟨(some 2), none, .box (.t 0)⟩,
    ⟨(some 3), none, .box (.t 1)⟩,
    ⟨(some 4), none, .move (.c (.sc (.int .i64 (0))))⟩])
  (.seq (.ops [⟨(some 14), none, .load none (.t 2)⟩,
    ⟨(some 15), none, .nilCheck (.t 14)⟩,
    ⟨(some 16), none, .faddr 6 (.t 15)⟩,
    ⟨(some 17), none, .load none (.t 16)⟩,
    ⟨(some 18), none, .len (.t 17)⟩,
    ⟨(some 5), none, .move (.t 18)⟩])
  (.seq (.seq (.draw [⟨false, [3], [], ⟨(some 19), none, .load none (.t 3)⟩⟩,
    ⟨false, [2], [], ⟨(some 20), none, .load none (.t 2)⟩⟩,
    ⟨false, [20], [], ⟨(some 21), none, .nilCheck (.t 20)⟩⟩,
    ⟨false, [21], [], ⟨(some 22), none, .faddr 7 (.t 21)⟩⟩,
    ⟨false, [22], [], ⟨(some 23), none, .load none (.t 22)⟩⟩,
    ⟨false, [5], [], ⟨(some 24), none, .move (.t 5)⟩⟩,
    ⟨false, [23, 24], [], ⟨(some 25), none, .iaddrS 1 (.t 23) (.t 24)⟩⟩,
    ⟨false, [25], [], ⟨(some 26), none, .load none (.t 25)⟩⟩]
    [⟨(some 27), none, .bin .lss (.t 19) (.t 26)⟩])
  (.cond (.t 27)
   (.seq (.ops [⟨(some 28), none, .move (.t 5)⟩,
     ⟨(some 29), none, .mkFn (.func 129) [] [(.t 2), (.t 3)]⟩,
     ⟨(some 30), none, .call (.c (.fn (.func 78) [] [])) [(.t 28), (.t 29)]⟩,
     ⟨(some 31), none, .bin .sub (.t 30) (.c (.sc (.int .i64 (1))))⟩,
     ⟨(some 6), none, .move (.t 31)⟩])
   (.seq (.ops [⟨(some 32), none, .load none (.t 2)⟩,
     ⟨(some 33), none, .nilCheck (.t 32)⟩,
     ⟨(some 34), none, .faddr 6 (.t 33)⟩,
     ⟨(some 35), none, .load none (.t 34)⟩,
     ⟨(some 36), none, .move (.t 6)⟩,
     ⟨(some 37), none, .iaddrS 2 (.t 35) (.t 36)⟩,
     ⟨(some 38), none, .faddr 0 (.t 37)⟩,
     ⟨(some 39), none, .load none (.t 38)⟩,
     ⟨(some 7), none, .move (.t 39)⟩])
   (.seq (.ops [⟨(some 41), none, .load none (.t 2)⟩,
     ⟨(some 42), none, .nilCheck (.t 41)⟩,
     ⟨(some 43), none, .faddr 0 (.t 42)⟩,
     ⟨(some 44), none, .faddr 3 (.t 43)⟩,
     ⟨(some 45), none, .load none (.t 44)⟩,
     ⟨(some 46), none, .move (.t 7)⟩,
     ⟨(some 47), none, .iaddrS 22 (.t 45) (.t 46)⟩,
     ⟨(some 48), none, .load (some 22) (.t 47)⟩,
     ⟨(some 49), none, .call (.c (.fn (.func 130) [] [])) [(.t 48)]⟩,
     ⟨(some 40), none, .move (.t 49)⟩,
     ⟨(some 50), none, .extract 0 (.t 40)⟩,
     ⟨(some 51), none, .extract 1 (.t 40)⟩,
     ⟨(some 8), none, .alloc [(.sc (.int .i64 (0))), (.sc (.int .i64 (0))), (.sc (.int .i64 (0))), (.sc (.int .i64 (0))), (.sc (.int .i64 (0))), (.sc (.int .i64 (0))), (.sc (.int .i64 (0))), (.sc (.int .i64 (0))), (.sc (.int .i64 (0))), (.sc (.int .i64 (0)))]⟩,
     ⟨none, none, .store 10 (.t 8) (.t 50)⟩,
     ⟨(some 9), none, .move (.t 51)⟩])
   (.seq (.draw [⟨false, [2], [], ⟨(some 53), none, .load none (.t 2)⟩⟩,
     ⟨false, [53], [], ⟨(some 54), none, .nilCheck (.t 53)⟩⟩,
     ⟨false, [54], [], ⟨(some 55), none, .faddr 0 (.t 54)⟩⟩,
     ⟨false, [55], [], ⟨(some 56), none, .faddr 3 (.t 55)⟩⟩,
     ⟨false, [56], [], ⟨(some 57), none, .load none (.t 56)⟩⟩,
     ⟨false, [7], [], ⟨(some 58), none, .move (.t 7)⟩⟩,
     ⟨false, [57, 58], [], ⟨(some 59), none, .iaddrS 22 (.t 57) (.t 58)⟩⟩,
     ⟨false, [59], [], ⟨(some 60), none, .faddr 2 (.t 59)⟩⟩,
     ⟨false, [60], [], ⟨(some 61), none, .load (some 8) (.t 60)⟩⟩,
     ⟨false, [8], [], ⟨(some 62), none, .faddr 8 (.t 8)⟩⟩,
     ⟨false, [62], [], ⟨(some 63), none, .load none (.t 62)⟩⟩,
     ⟨false, [3], [], ⟨(some 64), none, .load none (.t 3)⟩⟩,
     ⟨false, [2], [], ⟨(some 65), none, .load none (.t 2)⟩⟩,
     ⟨false, [65], [], ⟨(some 66), none, .nilCheck (.t 65)⟩⟩,
     ⟨false, [66], [], ⟨(some 67), none, .faddr 7 (.t 66)⟩⟩,
     ⟨false, [67], [], ⟨(some 68), none, .load none (.t 67)⟩⟩,
     ⟨false, [6], [], ⟨(some 69), none, .move (.t 6)⟩⟩,
     ⟨false, [68, 69], [], ⟨(some 70), none, .iaddrS 1 (.t 68) (.t 69)⟩⟩,
     ⟨false, [70], [], ⟨(some 71), none, .load none (.t 70)⟩⟩,
     ⟨false, [64, 71], [], ⟨(some 72), none, .bin .sub (.t 64) (.t 71)⟩⟩,
     ⟨false, [2], [], ⟨(some 73), none, .load none (.t 2)⟩⟩,
     ⟨false, [73], [], ⟨(some 74), none, .nilCheck (.t 73)⟩⟩,
     ⟨false, [74], [], ⟨(some 75), none, .faddr 8 (.t 74)⟩⟩,
     ⟨false, [75], [], ⟨(some 76), none, .load none (.t 75)⟩⟩,
     ⟨false, [7], [], ⟨(some 77), none, .move (.t 7)⟩⟩,
     ⟨false, [76, 77], [], ⟨(some 78), none, .iaddrS 1 (.t 76) (.t 77)⟩⟩,
     ⟨false, [78], [], ⟨(some 79), none, .load none (.t 78)⟩⟩,
     ⟨true, [61, 63, 72, 79], [], ⟨(some 80), none, .call (.c (.fn (.func 131) [] [])) [(.t 61), (.t 63), (.t 72), (.t 79)]⟩⟩,
     ⟨true, [80], [], ⟨(some 52), none, .move (.t 80)⟩⟩,
     ⟨true, [52], [], ⟨(some 81), none, .extract 0 (.t 52)⟩⟩,
     ⟨true, [52], [], ⟨(some 82), none, .extract 1 (.t 52)⟩⟩,
     ⟨true, [81], [], ⟨(some 10), none, .move (.t 81)⟩⟩]
     [⟨(some 11), none, .move (.t 82)⟩])
   (.draw [⟨false, [2], [], ⟨(some 83), none, .load none (.t 2)⟩⟩,
     ⟨false, [83], [], ⟨(some 84), none, .nilCheck (.t 83)⟩⟩,
     ⟨false, [84], [], ⟨(some 85), none, .faddr 7 (.t 84)⟩⟩,
     ⟨false, [85], [], ⟨(some 86), none, .load none (.t 85)⟩⟩,
     ⟨false, [6], [], ⟨(some 87), none, .move (.t 6)⟩⟩,
     ⟨false, [86, 87], [], ⟨(some 88), none, .iaddrS 1 (.t 86) (.t 87)⟩⟩,
     ⟨false, [88], [], ⟨(some 89), none, .load none (.t 88)⟩⟩,
     ⟨false, [10], [], ⟨(some 90), none, .move (.t 10)⟩⟩,
     ⟨false, [89, 90], [], ⟨(some 91), none, .bin .add (.t 89) (.t 90)⟩⟩,
     ⟨false, [2], [], ⟨(some 92), none, .load none (.t 2)⟩⟩,
     ⟨false, [92], [], ⟨(some 93), none, .nilCheck (.t 92)⟩⟩,
     ⟨false, [93], [], ⟨(some 94), none, .faddr 7 (.t 93)⟩⟩,
     ⟨false, [94], [], ⟨(some 95), none, .load none (.t 94)⟩⟩,
     ⟨false, [6], [], ⟨(some 96), none, .move (.t 6)⟩⟩,
     ⟨false, [96], [], ⟨(some 97), none, .bin .add (.t 96) (.c (.sc (.int .i64 (1))))⟩⟩,
     ⟨false, [95, 97], [], ⟨(some 98), none, .iaddrS 1 (.t 95) (.t 97)⟩⟩,
     ⟨false, [98], [], ⟨(some 99), none, .load none (.t 98)⟩⟩]
     [⟨(some 100), none, .mm false [(.t 91), (.t 99)]⟩,
     ⟨none, none, .store 1 (.t 3) (.t 100)⟩])))))
   (.skip)))
  (.seq (.draw [⟨false, [2], [], ⟨(some 102), none, .load none (.t 2)⟩⟩,
    ⟨false, [102], [], ⟨(some 103), none, .nilCheck (.t 102)⟩⟩,
    ⟨false, [103], [], ⟨(some 104), none, .faddr 9 (.t 103)⟩⟩,
    ⟨false, [104], [], ⟨(some 105), none, .load none (.t 104)⟩⟩,
    ⟨false, [3], [], ⟨(some 106), none, .load none (.t 3)⟩⟩,
    ⟨true, [105, 106], [], ⟨(some 107), none, .call (.c (.fn (.func 132) [] [])) [(.t 105), (.t 106)]⟩⟩,
    ⟨true, [107], [], ⟨(some 101), none, .move (.t 107)⟩⟩,
    ⟨true, [101], [], ⟨(some 108), none, .extract 0 (.t 101)⟩⟩,
    ⟨true, [101], [], ⟨(some 109), none, .extract 1 (.t 101)⟩⟩,
    ⟨true, [108], [], ⟨(some 12), none, .move (.t 108)⟩⟩]
    [⟨(some 13), none, .move (.t 109)⟩])
  (.seq (.ops [⟨(some 110), none, .move (.t 12)⟩,
    ⟨(some 4), none, .move (.t 110)⟩])
  (.ret))))),
  [.t 4]⟩
theorem ok61 : EntryOk Tryz.prog 61 af61 := ⟨Tryz.f61, _, Tryz.func61, by decide, rfl, by kernel_rfl, by kernel_rfl, rfl⟩
/-- hemiola/perform.Share -/
noncomputable def af65 : AF := ⟨25, .seq (.ops [⟨(some 4), none, .move (.c (.sc (.int .i64 (0))))⟩])
  (.seq (.ops [⟨(some 7), none, .move (.t 0)⟩,
    ⟨(some 8), none, .bin .and (.t 7) (.c (.sc (.int .i64 (1))))⟩,
    ⟨(some 9), none, .bin .neq (.t 8) (.c (.sc (.int .i64 (0))))⟩,
    ⟨(some 10), none, .move (.t 0)⟩,
    ⟨(some 11), none, .bin .and (.t 10) (.c (.sc (.int .i64 (2))))⟩,
    ⟨(some 12), none, .bin .neq (.t 11) (.c (.sc (.int .i64 (0))))⟩,
    ⟨(some 5), none, .move (.t 9)⟩,
    ⟨(some 6), none, .move (.t 12)⟩])
  (.seq (.block 0 (.seq (.ops [⟨(some 14), none, .move (.t 5)⟩,
     ⟨(some 15), none, .move (.t 14)⟩,
     ⟨(some 16), (some (15, true)), .move (.t 6)⟩,
     ⟨(some 17), none, .pick (.t 15) (.t 16) (.c (.sc (.bool false)))⟩,
     ⟨(some 13), none, .move (.t 17)⟩])
   (.cond (.t 13)
    (.seq (.ops [⟨(some 4), none, .move (.c (.sc (.int .i64 (75))))⟩])
    (.ret))
    (.seq (.ops [⟨(some 19), none, .move (.t 5)⟩,
      ⟨(some 18), none, .move (.t 19)⟩])
    (.cond (.t 18)
     (.seq (.ops [⟨(some 4), none, .move (.c (.sc (.int .i64 (50))))⟩])
     (.ret))
     (.seq (.ops [⟨(some 21), none, .move (.t 6)⟩,
       ⟨(some 22), none, .move (.t 21)⟩,
       ⟨(some 23), (some (22, false)), .move (.t 1)⟩,
       ⟨(some 24), none, .pick (.t 22) (.c (.sc (.bool true))) (.t 23)⟩,
       ⟨(some 20), none, .move (.t 24)⟩])
     (.cond (.t 20)
      (.seq (.ops [⟨(some 4), none, .move (.c (.sc (.int .i64 (100))))⟩])
      (.ret))
      (.skip))))))))
  (.seq (.ops [⟨(some 4), none, .move (.c (.sc (.int .i64 (95))))⟩])
  (.ret)))),
  [.t 4]⟩
theorem ok65 : EntryOk Tryz.prog 65 af65 := ⟨Tryz.f65, _, Tryz.func65, by decide, rfl, by kernel_rfl, by kernel_rfl, rfl⟩
/-- hemiola/perform.value -/
noncomputable def af70 : AF := ⟨14, .seq (.ops [⟨(some 2), none, .move (.c (.sc (.int .i64 (0))))⟩,
    ⟨(some 3), none, .move (.c (.sc (.bool false)))⟩])
  (.seq (.ops [⟨(some 4), none, .move (.t 0)⟩,
    ⟨(some 5), none, .bin .sub (.t 4) (.c (.sc (.int .i64 (1))))⟩,
    ⟨(some 6), none, .bin .mul (.c (.sc (.int .i64 (14)))) (.t 5)⟩,
    ⟨(some 7), none, .bin .add (.c (.sc (.int .i64 (20)))) (.t 6)⟩,
    ⟨(some 8), none, .move (.t 0)⟩,
    ⟨(some 9), none, .bin .geq (.t 8) (.c (.sc (.int .i64 (1))))⟩,
    ⟨(some 10), none, .move (.t 9)⟩,
    ⟨(some 11), (some (10, true)), .move (.t 0)⟩,
    ⟨(some 12), (some (10, true)), .bin .leq (.t 11) (.c (.sc (.int .i64 (8))))⟩,
    ⟨(some 13), none, .pick (.t 10) (.t 12) (.c (.sc (.bool false)))⟩,
    ⟨(some 2), none, .move (.t 7)⟩,
    ⟨(some 3), none, .move (.t 13)⟩])
  (.ret)),
  [.t 2, .t 3]⟩
theorem ok70 : EntryOk Tryz.prog 70 af70 := ⟨Tryz.f70, _, Tryz.func70, by decide, rfl, by kernel_rfl, by kernel_rfl, rfl⟩
/-- sort.Search -/
noncomputable def af78 : AF := ⟨26, .seq (.ops [⟨(some 4), none, .move (.c (.sc (.int .i64 (0))))⟩])
  (.seq (.ops [⟨(some 8), none, .move (.t 0)⟩,
    ⟨(some 5), none, .move (.c (.sc (.int .i64 (0))))⟩,
    ⟨(some 6), none, .move (.t 8)⟩])
  (.seq (.block 0 (.loop (.seq (.seq (.ops [⟨(some 9), none, .move (.t 5)⟩,
      ⟨(some 10), none, .move (.t 6)⟩,
      ⟨(some 11), none, .bin .lss (.t 9) (.t 10)⟩])
    (.cond (.t 11)
     (.skip)
     (.exit 0)))
    (.block 1 (.seq (.ops [⟨(some 12), none, .move (.t 5)⟩,
       ⟨(some 13), none, .move (.t 6)⟩,
       ⟨(some 14), none, .bin .add (.t 12) (.t 13)⟩,
       ⟨(some 15), none, .convI .u64 (.t 14)⟩,
       ⟨(some 16), none, .bin .shr (.t 15) (.c (.sc (.int .u64 (1))))⟩,
       ⟨(some 17), none, .convI .i64 (.t 16)⟩,
       ⟨(some 7), none, .move (.t 17)⟩])
     (.seq (.ops [⟨(some 18), none, .move (.t 1)⟩,
       ⟨(some 19), none, .move (.t 7)⟩,
       ⟨(some 20), none, .call (.t 18) [(.t 19)]⟩,
       ⟨(some 21), none, .un .not (.t 20)⟩])
     (.cond (.t 21)
      (.ops [⟨(some 22), none, .move (.t 7)⟩,
        ⟨(some 23), none, .bin .add (.t 22) (.c (.sc (.int .i64 (1))))⟩,
        ⟨(some 5), none, .move (.t 23)⟩])
      (.ops [⟨(some 24), none, .move (.t 7)⟩,
        ⟨(some 6), none, .move (.t 24)⟩]))))))))
  (.seq (.ops [⟨(some 25), none, .move (.t 5)⟩,
    ⟨(some 4), none, .move (.t 25)⟩])
  (.ret)))),
  [.t 4]⟩
theorem ok78 : EntryOk Tryz.prog 78 af78 := ⟨Tryz.f78, _, Tryz.func78, by decide, rfl, by kernel_rfl, by kernel_rfl, rfl⟩
/-- (*hemiola/check.checker).structure -/
noncomputable def af94 : AF := ⟨11, .seq (.ops [⟨(some 3), none, .move (.t 0)⟩,
    ⟨(some 4), none, .nilCheck (.t 3)⟩,
    ⟨(some 5), none, .faddr 0 (.t 4)⟩,
    ⟨(some 6), none, .load (some 6) (.t 5)⟩,
    ⟨(some 7), none, .call (.c (.fn (.func 114) [] [])) [(.t 6)]⟩,
    ⟨(some 2), none, .alloc [(.sc (.int .i64 (0)))]⟩,
    ⟨none, none, .store 1 (.t 2) (.t 7)⟩])
  (.ops [⟨(some 8), none, .move (.t 0)⟩,
    ⟨(some 9), none, .mkFn (.func 172) [] [(.t 2)]⟩,
    ⟨(some 10), none, .call (.c (.fn (.func 171) [] [])) [(.t 8), (.t 9)]⟩]),
  []⟩
theorem ok94 : EntryOk Tryz.prog 94 af94 := ⟨Tryz.f94, _, Tryz.func94, by decide, rfl, by kernel_rfl, by kernel_rfl, rfl⟩
/-- (*hemiola/check.checker).tuplets -/
noncomputable def af98 : AF := ⟨4, .ops [⟨(some 2), none, .move (.t 0)⟩,
    ⟨(some 3), none, .call (.c (.fn (.func 176) [] [])) [(.t 2), (.c (.fn (.func 178) [] []))]⟩],
  []⟩
theorem ok98 : EntryOk Tryz.prog 98 af98 := ⟨Tryz.f98, _, Tryz.func98, by decide, rfl, by kernel_rfl, by kernel_rfl, rfl⟩
/-- (*hemiola/check.checker).lyrics -/
noncomputable def af102 : AF := ⟨35, .seq (.ops [⟨(some 7), none, .mkMap⟩,
    ⟨(some 2), none, .alloc [(.sc (.map none))]⟩,
    ⟨none, none, .store 1 (.t 2) (.t 7)⟩])
  (.seq (.ops [⟨(some 8), none, .move (.t 0)⟩,
    ⟨(some 9), none, .nilCheck (.t 8)⟩,
    ⟨(some 10), none, .faddr 0 (.t 9)⟩,
    ⟨(some 11), none, .load (some 6) (.t 10)⟩,
    ⟨(some 12), none, .call (.c (.fn (.func 114) [] [])) [(.t 11)]⟩,
    ⟨(some 3), none, .move (.t 12)⟩])
  (.seq (.seq (.ops [⟨(some 13), none, .move (.t 3)⟩,
    ⟨(some 14), none, .move (.c (.sc (.int .i64 (0))))⟩])
  (.block 0 (.loop (.seq (.ops [⟨(some 15), none, .bin .lss (.t 14) (.t 13)⟩])
    (.seq (.cond (.t 15)
     (.skip)
     (.exit 0))
    (.seq (.block 1 (.seq (.ops [⟨(some 16), none, .move (.t 14)⟩,
       ⟨(some 4), none, .move (.t 16)⟩])
     (.seq (.ops [⟨(some 17), none, .move (.c (.sc (.int .i64 (0))))⟩])
     (.block 2 (.loop (.seq (.ops [⟨(some 18), none, .bin .lss (.t 17) (.c (.sc (.int .i64 (2))))⟩])
       (.seq (.cond (.t 18)
        (.skip)
        (.exit 2))
       (.seq (.block 3 (.seq (.ops [⟨(some 19), none, .move (.t 17)⟩,
          ⟨(some 5), none, .move (.t 19)⟩])
        (.seq (.ops [⟨(some 20), none, .move (.c (.sc (.int .i64 (0))))⟩])
        (.block 4 (.loop (.seq (.ops [⟨(some 21), none, .bin .lss (.t 20) (.c (.sc (.int .i64 (4))))⟩])
          (.seq (.cond (.t 21)
           (.skip)
           (.exit 4))
          (.seq (.block 5 (.seq (.ops [⟨(some 22), none, .move (.t 20)⟩,
             ⟨(some 6), none, .move (.t 22)⟩])
           (.ops [⟨(some 23), none, .move (.t 0)⟩,
             ⟨(some 24), none, .move (.t 4)⟩,
             ⟨(some 25), none, .move (.t 5)⟩,
             ⟨(some 26), none, .move (.t 6)⟩,
             ⟨(some 27), none, .load none (.t 2)⟩,
             ⟨(some 28), none, .call (.c (.fn (.func 193) [] [])) [(.t 23), (.t 24), (.t 25), (.t 26), (.t 27)]⟩])))
          (.ops [⟨(some 29), none, .bin .add (.t 20) (.c (.sc (.int .i64 (1))))⟩,
            ⟨(some 20), none, .move (.t 29)⟩])))))))))
       (.ops [⟨(some 30), none, .bin .add (.t 17) (.c (.sc (.int .i64 (1))))⟩,
         ⟨(some 17), none, .move (.t 30)⟩])))))))))
    (.ops [⟨(some 31), none, .bin .add (.t 14) (.c (.sc (.int .i64 (1))))⟩,
      ⟨(some 14), none, .move (.t 31)⟩])))))))
  (.ops [⟨(some 32), none, .move (.t 0)⟩,
    ⟨(some 33), none, .mkFn (.func 194) [] [(.t 2)]⟩,
    ⟨(some 34), none, .call (.c (.fn (.func 179) [] [])) [(.t 32), (.t 33)]⟩]))),
  []⟩
theorem ok102 : EntryOk Tryz.prog 102 af102 := ⟨Tryz.f102, _, Tryz.func102, by decide, rfl, by kernel_rfl, by kernel_rfl, rfl⟩
/-- (*hemiola/check.checker).jumps -/
noncomputable def af106 : AF := ⟨5, .seq (.ops [⟨(some 1), none, .box (.t 0)⟩])
  (.ops [⟨(some 2), none, .load none (.t 1)⟩,
    ⟨(some 3), none, .mkFn (.func 200) [] [(.t 1)]⟩,
    ⟨(some 4), none, .call (.c (.fn (.func 171) [] [])) [(.t 2), (.t 3)]⟩]),
  []⟩
theorem ok106 : EntryOk Tryz.prog 106 af106 := ⟨Tryz.f106, _, Tryz.func106, by decide, rfl, by kernel_rfl, by kernel_rfl, rfl⟩
/-- hemiola/unfold.groups -/
noncomputable def af110 : AF := ⟨153, .seq (.ops [⟨(some 1), none, .box (.t 0)⟩,
    ⟨(some 2), none, .move (.c (.sl true .full 0 []))⟩])
  (.seq (.ops [⟨(some 3), none, .move (.c (.sl true .full 0 []))⟩])
  (.seq (.ops [⟨(some 4), none, .move (.c (.sc (.int .i64 (0))))⟩])
  (.seq (.seq (.ops [⟨(some 5), none, .move (.c (.sc (.int .i64 (0))))⟩])
  (.block 0 (.loop (.seq (.seq (.ops [⟨(some 10), none, .move (.t 5)⟩,
      ⟨(some 11), none, .faddr 3 (.t 1)⟩,
      ⟨(some 12), none, .load none (.t 11)⟩,
      ⟨(some 13), none, .len (.t 12)⟩,
      ⟨(some 14), none, .bin .lss (.t 10) (.t 13)⟩])
    (.cond (.t 14)
     (.skip)
     (.exit 0)))
    (.seq (.block 1 (.seq (.ops [⟨(some 17), none, .faddr 3 (.t 1)⟩,
       ⟨(some 18), none, .load none (.t 17)⟩,
       ⟨(some 19), none, .move (.t 5)⟩,
       ⟨(some 20), none, .iaddrS 22 (.t 18) (.t 19)⟩,
       ⟨(some 21), none, .load (some 22) (.t 20)⟩,
       ⟨(some 6), none, .alloc [(.sc (.int .i64 (0))), (.sc (.int .i64 (0))), (.sc (.int .i64 (0))), (.sc (.int .i64 (0))), (.sc (.int .i64 (0))), (.sc (.int .i64 (0))), (.sc (.int .i64 (0))), (.sc (.int .i64 (0))), (.sc (.int .i64 (0))), (.sc (.int .i64 (0))), (.sc (.int .i64 (0))), (.sc (.int .i64 (0))), (.sc (.bool false)), (.sc (.int .i64 (0))), (.sc (.int .i64 (0))), (.sc (.int .i64 (0))), (.sc (.int .i64 (0))), (.sc (.int .i64 (0))), (.sc (.int .i64 (0))), (.sc (.string ⟨#[]⟩)), (.sl true .full 0 []), (.sl true .full 0 [])]⟩,
       ⟨none, none, .store 22 (.t 6) (.t 21)⟩])
     (.block 2 (.seq (.ops [⟨(some 23), none, .faddr 14 (.t 6)⟩,
        ⟨(some 24), none, .load none (.t 23)⟩,
        ⟨(some 25), none, .bin .neq (.t 24) (.c (.sc (.int .i64 (0))))⟩,
        ⟨(some 22), none, .move (.t 25)⟩])
      (.cond (.t 22)
       (.seq (.ops [⟨(some 26), none, .move (.t 4)⟩,
         ⟨(some 27), none, .move (.t 5)⟩,
         ⟨(some 28), none, .build [(.sc (.int .i64 (0))), (.sc (.int .i64 (0)))] [((0, 1), (.t 26)), ((1, 1), (.t 27))]⟩,
         ⟨(some 29), none, .build [(.sc (.int .i64 (0))), (.sc (.int .i64 (0))), (.sl true .full 0 []), (.sc (.int .i64 (0)))] [((0, 2), (.t 28))]⟩,
         ⟨(some 7), none, .alloc [(.sc (.int .i64 (0))), (.sc (.int .i64 (0))), (.sl true .full 0 []), (.sc (.int .i64 (0)))]⟩,
         ⟨none, none, .store 4 (.t 7) (.t 29)⟩])
       (.seq (.ops [⟨(some 8), none, .move (.c (.sc (.int .i64 (0))))⟩])
       (.seq (.block 3 (.loop (.seq (.seq (.ops [⟨(some 30), none, .move (.t 5)⟩,
           ⟨(some 31), none, .faddr 3 (.t 1)⟩,
           ⟨(some 32), none, .load none (.t 31)⟩,
           ⟨(some 33), none, .len (.t 32)⟩,
           ⟨(some 34), none, .bin .lss (.t 30) (.t 33)⟩,
           ⟨(some 35), none, .move (.t 34)⟩,
           ⟨(some 36), (some (35, true)), .faddr 3 (.t 1)⟩,
           ⟨(some 37), (some (35, true)), .load none (.t 36)⟩,
           ⟨(some 38), (some (35, true)), .move (.t 5)⟩,
           ⟨(some 39), (some (35, true)), .iaddrS 22 (.t 37) (.t 38)⟩,
           ⟨(some 40), (some (35, true)), .faddr 14 (.t 39)⟩,
           ⟨(some 41), (some (35, true)), .load none (.t 40)⟩,
           ⟨(some 42), (some (35, true)), .bin .neq (.t 41) (.c (.sc (.int .i64 (0))))⟩,
           ⟨(some 43), none, .pick (.t 35) (.t 42) (.c (.sc (.bool false)))⟩])
         (.cond (.t 43)
          (.skip)
          (.exit 3)))
         (.block 4 (.seq (.ops [⟨(some 44), none, .move (.t 5)⟩,
            ⟨(some 45), none, .move (.t 5)⟩,
            ⟨(some 46), none, .build [(.sc (.int .i64 (0))), (.sc (.int .i64 (0)))] [((0, 1), (.t 44)), ((1, 1), (.t 45))]⟩,
            ⟨(some 47), none, .faddr 3 (.t 1)⟩,
            ⟨(some 48), none, .load none (.t 47)⟩,
            ⟨(some 49), none, .move (.t 5)⟩,
            ⟨(some 50), none, .iaddrS 22 (.t 48) (.t 49)⟩,
            ⟨(some 51), none, .faddr 14 (.t 50)⟩,
            ⟨(some 52), none, .load none (.t 51)⟩,
            ⟨(some 53), none, .build [(.sc (.int .i64 (0))), (.sc (.int .i64 (0))), (.sc (.int .i64 (0)))] [((0, 2), (.t 46)), ((2, 1), (.t 52))]⟩,
            ⟨(some 9), none, .alloc [(.sc (.int .i64 (0))), (.sc (.int .i64 (0))), (.sc (.int .i64 (0)))]⟩,
            ⟨none, none, .store 3 (.t 9) (.t 53)⟩])
          (.seq (.block 5 (.loop (.seq (.seq (.draw [⟨false, [9], [], ⟨(some 54), none, .faddr 0 (.t 9)⟩⟩,
              ⟨false, [54], [], ⟨(some 55), none, .faddr 1 (.t 54)⟩⟩,
              ⟨false, [55], [], ⟨(some 56), none, .load none (.t 55)⟩⟩,
              ⟨false, [1], [], ⟨(some 57), none, .faddr 3 (.t 1)⟩⟩,
              ⟨false, [57], [], ⟨(some 58), none, .load none (.t 57)⟩⟩,
              ⟨false, [58], [], ⟨(some 59), none, .len (.t 58)⟩⟩,
              ⟨true, [56, 59], [], ⟨(some 60), none, .bin .lss (.t 56) (.t 59)⟩⟩,
              ⟨true, [60], [], ⟨(some 61), none, .move (.t 60)⟩⟩,
              ⟨false, [1, 61], [], ⟨(some 62), (some (61, true)), .faddr 3 (.t 1)⟩⟩,
              ⟨false, [62, 61], [], ⟨(some 63), (some (61, true)), .load none (.t 62)⟩⟩,
              ⟨false, [9, 61], [], ⟨(some 64), (some (61, true)), .faddr 0 (.t 9)⟩⟩,
              ⟨false, [64, 61], [], ⟨(some 65), (some (61, true)), .faddr 1 (.t 64)⟩⟩,
              ⟨false, [65, 61], [], ⟨(some 66), (some (61, true)), .load none (.t 65)⟩⟩,
              ⟨false, [63, 66, 61], [], ⟨(some 67), (some (61, true)), .iaddrS 22 (.t 63) (.t 66)⟩⟩,
              ⟨false, [67, 61], [], ⟨(some 68), (some (61, true)), .faddr 14 (.t 67)⟩⟩,
              ⟨false, [68, 61], [], ⟨(some 69), (some (61, true)), .load none (.t 68)⟩⟩,
              ⟨false, [9, 61], [], ⟨(some 70), (some (61, true)), .faddr 2 (.t 9)⟩⟩,
              ⟨false, [70, 61], [], ⟨(some 71), (some (61, true)), .load none (.t 70)⟩⟩]
              [⟨(some 72), (some (61, true)), .bin .eql (.t 69) (.t 71)⟩,
              ⟨(some 73), none, .pick (.t 61) (.t 72) (.c (.sc (.bool false)))⟩])
            (.cond (.t 73)
             (.skip)
             (.exit 5)))
            (.block 6 (.ops [⟨(some 74), none, .faddr 0 (.t 9)⟩,
               ⟨(some 75), none, .faddr 1 (.t 74)⟩,
               ⟨(some 76), none, .load none (.t 75)⟩,
               ⟨(some 77), none, .bin .add (.t 76) (.c (.sc (.int .i64 (1))))⟩,
               ⟨(some 78), none, .faddr 0 (.t 9)⟩,
               ⟨(some 79), none, .faddr 1 (.t 78)⟩,
               ⟨none, none, .store 1 (.t 79) (.t 77)⟩])))))
          (.seq (.ops [⟨(some 80), none, .faddr 2 (.t 7)⟩,
            ⟨(some 81), none, .load none (.t 80)⟩,
            ⟨(some 82), none, .load (some 3) (.t 9)⟩,
            ⟨(some 83), none, .buildSl 3 [(.t 82)]⟩,
            ⟨(some 84), none, .append 3 24 (.t 81) (.t 83)⟩,
            ⟨(some 85), none, .faddr 2 (.t 7)⟩,
            ⟨none, none, .store 1 (.t 85) (.t 84)⟩])
          (.seq (.ops [⟨(some 86), none, .move (.t 8)⟩,
            ⟨(some 87), none, .faddr 2 (.t 9)⟩,
            ⟨(some 88), none, .load none (.t 87)⟩,
            ⟨(some 89), none, .bin .or (.t 86) (.t 88)⟩,
            ⟨(some 8), none, .move (.t 89)⟩])
          (.ops [⟨(some 90), none, .faddr 0 (.t 9)⟩,
            ⟨(some 91), none, .faddr 1 (.t 90)⟩,
            ⟨(some 92), none, .load none (.t 91)⟩,
            ⟨(some 5), none, .move (.t 92)⟩])))))))))
       (.seq (.ops [⟨(some 93), none, .move (.t 8)⟩,
         ⟨(some 94), none, .convI .u64 (.t 93)⟩,
         ⟨(some 95), none, .call (.c (.fn (.func 206) [] [])) [(.t 94)]⟩,
         ⟨(some 96), none, .faddr 3 (.t 7)⟩,
         ⟨none, none, .store 1 (.t 96) (.t 95)⟩])
       (.seq (.ops [⟨(some 97), none, .move (.t 3)⟩,
         ⟨(some 98), none, .load (some 4) (.t 7)⟩,
         ⟨(some 99), none, .buildSl 4 [(.t 98)]⟩,
         ⟨(some 100), none, .append 4 48 (.t 97) (.t 99)⟩,
         ⟨(some 3), none, .move (.t 100)⟩])
       (.seq (.ops [⟨(some 101), none, .move (.t 5)⟩,
         ⟨(some 4), none, .move (.t 101)⟩])
       (.ops [⟨(some 102), none, .move (.t 5)⟩,
         ⟨(some 103), none, .bin .sub (.t 102) (.c (.sc (.int .i64 (1))))⟩,
         ⟨(some 5), none, .move (.t 103)⟩])))))))
       (.seq (.ops [⟨(some 105), none, .faddr 12 (.t 6)⟩,
         ⟨(some 106), none, .load none (.t 105)⟩,
         ⟨(some 107), none, .move (.t 106)⟩,
         ⟨(some 108), (some (107, true)), .move (.t 5)⟩,
         ⟨(some 109), (some (107, true)), .move (.t 4)⟩,
         ⟨(some 110), (some (107, true)), .bin .gtr (.t 108) (.t 109)⟩,
         ⟨(some 111), none, .pick (.t 107) (.t 110) (.c (.sc (.bool false)))⟩,
         ⟨(some 104), none, .move (.t 111)⟩])
       (.cond (.t 104)
        (.seq (.ops [⟨(some 112), none, .move (.t 3)⟩,
          ⟨(some 113), none, .move (.t 4)⟩,
          ⟨(some 114), none, .move (.t 5)⟩,
          ⟨(some 115), none, .build [(.sc (.int .i64 (0))), (.sc (.int .i64 (0)))] [((0, 1), (.t 113)), ((1, 1), (.t 114))]⟩,
          ⟨(some 116), none, .build [(.sc (.int .i64 (0))), (.sc (.int .i64 (0))), (.sl true .full 0 []), (.sc (.int .i64 (0)))] [((0, 2), (.t 115)), ((3, 1), (.c (.sc (.int .i64 (1)))))]⟩,
          ⟨(some 117), none, .buildSl 4 [(.t 116)]⟩,
          ⟨(some 118), none, .append 4 48 (.t 112) (.t 117)⟩,
          ⟨(some 3), none, .move (.t 118)⟩])
        (.seq (.ops [⟨(some 119), none, .move (.t 5)⟩,
          ⟨(some 4), none, .move (.t 119)⟩])
        (.ops [⟨(some 120), none, .move (.t 5)⟩,
          ⟨(some 121), none, .bin .sub (.t 120) (.c (.sc (.int .i64 (1))))⟩,
          ⟨(some 5), none, .move (.t 121)⟩])))
        (.seq (.ops [⟨(some 123), none, .faddr 13 (.t 6)⟩,
          ⟨(some 124), none, .load none (.t 123)⟩,
          ⟨(some 125), none, .bin .neq (.t 124) (.c (.sc (.int .i64 (0))))⟩,
          ⟨(some 122), none, .move (.t 125)⟩])
        (.cond (.t 122)
         (.seq (.ops [⟨(some 126), none, .move (.t 3)⟩,
           ⟨(some 127), none, .move (.t 4)⟩,
           ⟨(some 128), none, .move (.t 5)⟩,
           ⟨(some 129), none, .bin .add (.t 128) (.c (.sc (.int .i64 (1))))⟩,
           ⟨(some 130), none, .build [(.sc (.int .i64 (0))), (.sc (.int .i64 (0)))] [((0, 1), (.t 127)), ((1, 1), (.t 129))]⟩,
           ⟨(some 131), none, .faddr 13 (.t 6)⟩,
           ⟨(some 132), none, .load none (.t 131)⟩,
           ⟨(some 133), none, .build [(.sc (.int .i64 (0))), (.sc (.int .i64 (0))), (.sl true .full 0 []), (.sc (.int .i64 (0)))] [((0, 2), (.t 130)), ((3, 1), (.t 132))]⟩,
           ⟨(some 134), none, .buildSl 4 [(.t 133)]⟩,
           ⟨(some 135), none, .append 4 48 (.t 126) (.t 134)⟩,
           ⟨(some 3), none, .move (.t 135)⟩])
         (.ops [⟨(some 136), none, .move (.t 5)⟩,
           ⟨(some 137), none, .bin .add (.t 136) (.c (.sc (.int .i64 (1))))⟩,
           ⟨(some 4), none, .move (.t 137)⟩]))
         (.skip))))))))))
    (.ops [⟨(some 15), none, .move (.t 5)⟩,
      ⟨(some 16), none, .bin .add (.t 15) (.c (.sc (.int .i64 (1))))⟩,
      ⟨(some 5), none, .move (.t 16)⟩]))))))
  (.seq (.seq (.ops [⟨(some 138), none, .move (.t 4)⟩,
    ⟨(some 139), none, .faddr 3 (.t 1)⟩,
    ⟨(some 140), none, .load none (.t 139)⟩,
    ⟨(some 141), none, .len (.t 140)⟩,
    ⟨(some 142), none, .bin .lss (.t 138) (.t 141)⟩])
  (.cond (.t 142)
   (.ops [⟨(some 143), none, .move (.t 3)⟩,
     ⟨(some 144), none, .move (.t 4)⟩,
     ⟨(some 145), none, .faddr 3 (.t 1)⟩,
     ⟨(some 146), none, .load none (.t 145)⟩,
     ⟨(some 147), none, .len (.t 146)⟩,
     ⟨(some 148), none, .build [(.sc (.int .i64 (0))), (.sc (.int .i64 (0)))] [((0, 1), (.t 144)), ((1, 1), (.t 147))]⟩,
     ⟨(some 149), none, .build [(.sc (.int .i64 (0))), (.sc (.int .i64 (0))), (.sl true .full 0 []), (.sc (.int .i64 (0)))] [((0, 2), (.t 148)), ((3, 1), (.c (.sc (.int .i64 (1)))))]⟩,
     ⟨(some 150), none, .buildSl 4 [(.t 149)]⟩,
     ⟨(some 151), none, .append 4 48 (.t 143) (.t 150)⟩,
     ⟨(some 3), none, .move (.t 151)⟩])
   (.skip)))
  (.seq (.ops [⟨(some 152), none, .move (.t 3)⟩,
    ⟨(some 2), none, .move (.t 152)⟩])
  (.ret)))))),
  [.t 2]⟩
theorem ok110 : EntryOk Tryz.prog 110 af110 := ⟨Tryz.f110, _, Tryz.func110, by decide, rfl, by kernel_rfl, by kernel_rfl, rfl⟩
/-- hemiola/score.PartOf -/
noncomputable def af115 : AF := ⟨32, .seq (.ops [⟨(some 2), none, .box (.t 0)⟩,
    ⟨(some 4), none, .move (.c (.sc (.int .i64 (0))))⟩,
    ⟨(some 5), none, .move (.c (.sc (.int .i64 (0))))⟩,
    ⟨(some 6), none, .move (.c (.sc (.int .i64 (0))))⟩])
  (.seq (.seq (.ops [⟨(some 9), none, .move (.t 1)⟩,
    ⟨(some 10), none, .bin .lss (.t 9) (.c (.sc (.int .i64 (0))))⟩])
  (.cond (.t 10)
   (.seq (.ops [⟨(some 4), none, .move (.c (.sc (.int .i64 (0))))⟩,
     ⟨(some 5), none, .move (.c (.sc (.int .i64 (0))))⟩,
     ⟨(some 6), none, .move (.c (.sc (.int .i64 (2))))⟩])
   (.ret))
   (.skip)))
  (.seq (.seq (.ops [⟨(some 11), none, .faddr 2 (.t 2)⟩,
    ⟨(some 12), none, .load none (.t 11)⟩,
    ⟨(some 13), none, .len (.t 12)⟩,
    ⟨(some 14), none, .move (.c (.sc (.int .i64 (0))))⟩])
  (.block 0 (.loop (.seq (.ops [⟨(some 15), none, .bin .lss (.t 14) (.t 13)⟩])
    (.seq (.cond (.t 15)
     (.skip)
     (.exit 0))
    (.seq (.block 1 (.seq (.ops [⟨(some 16), none, .move (.t 14)⟩,
       ⟨(some 17), none, .iaddrS 6 (.t 12) (.t 14)⟩,
       ⟨(some 18), none, .load (some 6) (.t 17)⟩,
       ⟨(some 8), none, .alloc [(.sc (.int .i64 (0))), (.sc (.int .i64 (0))), (.sc (.string ⟨#[]⟩)), (.sc (.int .i64 (0))), (.sc (.int .i64 (0))), (.sl true .full 0 [])]⟩,
       ⟨(some 7), none, .move (.t 16)⟩,
       ⟨none, none, .store 6 (.t 8) (.t 18)⟩])
     (.seq (.seq (.ops [⟨(some 19), none, .move (.t 1)⟩,
       ⟨(some 20), none, .faddr 5 (.t 8)⟩,
       ⟨(some 21), none, .load none (.t 20)⟩,
       ⟨(some 22), none, .len (.t 21)⟩,
       ⟨(some 23), none, .bin .lss (.t 19) (.t 22)⟩])
     (.cond (.t 23)
      (.seq (.ops [⟨(some 24), none, .move (.t 7)⟩,
        ⟨(some 25), none, .move (.t 1)⟩,
        ⟨(some 4), none, .move (.t 24)⟩,
        ⟨(some 5), none, .move (.t 25)⟩,
        ⟨(some 6), none, .move (.c (.sc (.int .i64 (0))))⟩])
      (.ret))
      (.skip)))
     (.ops [⟨(some 26), none, .move (.t 1)⟩,
       ⟨(some 27), none, .faddr 5 (.t 8)⟩,
       ⟨(some 28), none, .load none (.t 27)⟩,
       ⟨(some 29), none, .len (.t 28)⟩,
       ⟨(some 30), none, .bin .sub (.t 26) (.t 29)⟩,
       ⟨(some 1), none, .move (.t 30)⟩]))))
    (.ops [⟨(some 31), none, .bin .add (.t 14) (.c (.sc (.int .i64 (1))))⟩,
      ⟨(some 14), none, .move (.t 31)⟩])))))))
  (.seq (.ops [⟨(some 4), none, .move (.c (.sc (.int .i64 (0))))⟩,
    ⟨(some 5), none, .move (.c (.sc (.int .i64 (0))))⟩,
    ⟨(some 6), none, .move (.c (.sc (.int .i64 (2))))⟩])
  (.ret)))),
  [.t 4, .t 5, .t 6]⟩
theorem ok115 : EntryOk Tryz.prog 115 af115 := ⟨Tryz.f115, _, Tryz.func115, by decide, rfl, by kernel_rfl, by kernel_rfl, rfl⟩
/-- slices.IndexFunc[[]hemiola/api.Bar,hemiola/api.Bar] -/
noncomputable def af120 : AF := ⟨19, .seq (.ops [⟨(some 4), none, .move (.c (.sc (.int .i64 (0))))⟩])
  (.seq (.seq (.ops [⟨(some 6), none, .move (.t 0)⟩,
    ⟨(some 7), none, .len (.t 6)⟩,
    ⟨(some 8), none, .move (.c (.sc (.int .i64 (0))))⟩])
  (.block 0 (.loop (.seq (.ops [⟨(some 9), none, .bin .lss (.t 8) (.t 7)⟩])
    (.seq (.cond (.t 9)
     (.skip)
     (.exit 0))
    (.seq (.block 1 (.seq (.ops [⟨(some 10), none, .move (.t 8)⟩,
       ⟨(some 5), none, .move (.t 10)⟩])
     (.seq (.ops [⟨(some 11), none, .move (.t 1)⟩,
       ⟨(some 12), none, .move (.t 0)⟩,
       ⟨(some 13), none, .move (.t 5)⟩,
       ⟨(some 14), none, .iaddrS 2 (.t 12) (.t 13)⟩,
       ⟨(some 15), none, .load (some 2) (.t 14)⟩,
       ⟨(some 16), none, .call (.t 11) [(.t 15)]⟩])
     (.cond (.t 16)
      (.seq (.ops [⟨(some 17), none, .move (.t 5)⟩,
        ⟨(some 4), none, .move (.t 17)⟩])
      (.ret))
      (.skip)))))
    (.ops [⟨(some 18), none, .bin .add (.t 8) (.c (.sc (.int .i64 (1))))⟩,
      ⟨(some 8), none, .move (.t 18)⟩])))))))
  (.seq (.ops [⟨(some 4), none, .move (.c (.sc (.int .i64 (-1))))⟩])
  (.ret))),
  [.t 4]⟩
theorem ok120 : EntryOk Tryz.prog 120 af120 := ⟨Tryz.f120, _, Tryz.func120, by decide, rfl, by kernel_rfl, by kernel_rfl, rfl⟩
/-- hemiola/metre.Length -/
noncomputable def af124 : AF := ⟨12, .seq (.ops [⟨(some 1), none, .box (.t 0)⟩,
    ⟨(some 2), none, .move (.c (.sc (.int .i64 (0))))⟩,
    ⟨(some 3), none, .move (.c (.sc (.int .i64 (0))))⟩])
  (.seq (.seq (.ops [⟨(some 5), none, .load (some 8) (.t 1)⟩,
    ⟨(some 6), none, .call (.c (.fn (.func 217) [] [])) [(.t 5)]⟩,
    ⟨(some 4), none, .move (.t 6)⟩])
  (.seq (.ops [⟨(some 7), none, .move (.t 4)⟩,
    ⟨(some 8), none, .bin .neq (.t 7) (.c (.sc (.int .i64 (0))))⟩])
  (.cond (.t 8)
   (.seq (.ops [⟨(some 9), none, .move (.t 4)⟩,
     ⟨(some 2), none, .move (.c (.sc (.int .i64 (0))))⟩,
     ⟨(some 3), none, .move (.t 9)⟩])
   (.ret))
   (.skip))))
  (.seq (.ops [⟨(some 10), none, .load (some 8) (.t 1)⟩,
    ⟨(some 11), none, .call (.c (.fn (.func 218) [] [])) [(.t 10)]⟩,
    ⟨(some 2), none, .move (.t 11)⟩,
    ⟨(some 3), none, .move (.c (.sc (.int .i64 (0))))⟩])
  (.ret))),
  [.t 2, .t 3]⟩
theorem ok124 : EntryOk Tryz.prog 124 af124 := ⟨Tryz.f124, _, Tryz.func124, by decide, rfl, by kernel_rfl, by kernel_rfl, rfl⟩
/-- (*hemiola/perform.player).time$1 -/
noncomputable def af129 : AF := ⟨14, .seq (.ops [⟨(some 4), none, .move (.c (.sc (.bool false)))⟩])
  (.seq (.draw [⟨false, [1], [], ⟨(some 5), none, .load none (.t 1)⟩⟩,
    ⟨false, [5], [], ⟨(some 6), none, .nilCheck (.t 5)⟩⟩,
    ⟨false, [6], [], ⟨(some 7), none, .faddr 7 (.t 6)⟩⟩,
    ⟨false, [7], [], ⟨(some 8), none, .load none (.t 7)⟩⟩,
    ⟨false, [0], [], ⟨(some 9), none, .move (.t 0)⟩⟩,
    ⟨false, [8, 9], [], ⟨(some 10), none, .iaddrS 1 (.t 8) (.t 9)⟩⟩,
    ⟨false, [10], [], ⟨(some 11), none, .load none (.t 10)⟩⟩,
    ⟨false, [2], [], ⟨(some 12), none, .load none (.t 2)⟩⟩]
    [⟨(some 13), none, .bin .gtr (.t 11) (.t 12)⟩,
    ⟨(some 4), none, .move (.t 13)⟩])
  (.ret)),
  [.t 4]⟩
theorem ok129 : EntryOk Tryz.prog 129 af129 := ⟨Tryz.f129, _, Tryz.func129, by decide, rfl, by kernel_rfl, by kernel_rfl, rfl⟩
/-- hemiola/event.CheckGraces -/
noncomputable def af133 : AF := ⟨34, .seq (.ops [⟨(some 2), none, .move (.c (.sc (.int .i64 (0))))⟩])
  (.seq (.seq (.ops [⟨(some 7), none, .move (.t 0)⟩,
    ⟨(some 8), none, .len (.t 7)⟩,
    ⟨(some 9), none, .bin .gtr (.t 8) (.c (.sc (.int .i64 (8))))⟩])
  (.cond (.t 9)
   (.seq (.ops [⟨(some 2), none, .move (.c (.sc (.int .i64 (9))))⟩])
   (.ret))
   (.skip)))
  (.seq (.seq (.ops [⟨(some 10), none, .move (.t 0)⟩,
    ⟨(some 11), none, .len (.t 10)⟩,
    ⟨(some 12), none, .move (.c (.sc (.int .i64 (0))))⟩])
  (.block 0 (.loop (.seq (.ops [⟨(some 13), none, .bin .lss (.t 12) (.t 11)⟩])
    (.seq (.cond (.t 13)
     (.skip)
     (.exit 0))
    (.seq (.block 1 (.seq (.ops [⟨(some 14), none, .iaddrS 5 (.t 10) (.t 12)⟩,
       ⟨(some 15), none, .load (some 5) (.t 14)⟩,
       ⟨(some 4), none, .alloc [(.sc (.int .i64 (0))), (.sc (.int .i64 (0))), (.sc (.int .i64 (0))), (.sc (.int .i64 (0))), (.sc (.bool false))]⟩,
       ⟨none, none, .store 5 (.t 4) (.t 15)⟩])
     (.seq (.seq (.ops [⟨(some 17), none, .faddr 0 (.t 4)⟩,
       ⟨(some 18), none, .load (some 3) (.t 17)⟩,
       ⟨(some 19), none, .call (.c (.fn (.func 223) [] [])) [(.t 18)]⟩,
       ⟨(some 16), none, .move (.t 19)⟩,
       ⟨(some 20), none, .extract 0 (.t 16)⟩,
       ⟨(some 21), none, .extract 1 (.t 16)⟩,
       ⟨(some 5), none, .move (.t 20)⟩,
       ⟨(some 6), none, .move (.t 21)⟩])
     (.seq (.ops [⟨(some 22), none, .move (.t 6)⟩,
       ⟨(some 23), none, .bin .neq (.t 22) (.c (.sc (.int .i64 (0))))⟩])
     (.cond (.t 23)
      (.seq (.ops [⟨(some 24), none, .move (.t 6)⟩,
        ⟨(some 2), none, .move (.t 24)⟩])
      (.ret))
      (.skip))))
     (.seq (.ops [⟨(some 25), none, .faddr 3 (.t 4)⟩,
       ⟨(some 26), none, .load none (.t 25)⟩,
       ⟨(some 27), none, .bin .lss (.t 26) (.c (.sc (.int .i64 (1))))⟩,
       ⟨(some 28), none, .move (.t 27)⟩,
       ⟨(some 29), (some (28, false)), .faddr 3 (.t 4)⟩,
       ⟨(some 30), (some (28, false)), .load none (.t 29)⟩,
       ⟨(some 31), (some (28, false)), .bin .gtr (.t 30) (.c (.sc (.int .i64 (6))))⟩,
       ⟨(some 32), none, .pick (.t 28) (.c (.sc (.bool true))) (.t 31)⟩])
     (.cond (.t 32)
      (.seq (.ops [⟨(some 2), none, .move (.c (.sc (.int .i64 (2))))⟩])
      (.ret))
      (.skip))))))
    (.ops [⟨(some 33), none, .bin .add (.t 12) (.c (.sc (.int .i64 (1))))⟩,
      ⟨(some 12), none, .move (.t 33)⟩])))))))
  (.seq (.ops [⟨(some 2), none, .move (.c (.sc (.int .i64 (0))))⟩])
  (.ret)))),
  [.t 2]⟩
theorem ok133 : EntryOk Tryz.prog 133 af133 := ⟨Tryz.f133, _, Tryz.func133, by decide, rfl, by kernel_rfl, by kernel_rfl, rfl⟩
/-- hemiola/key.Alter -/
noncomputable def af137 : AF := ⟨18, .seq (.ops [⟨(some 4), none, .move (.c (.sc (.int .i64 (0))))⟩,
    ⟨(some 5), none, .move (.c (.sc (.int .i64 (0))))⟩])
  (.seq (.seq (.ops [⟨(some 7), none, .move (.t 0)⟩,
    ⟨(some 8), none, .call (.c (.fn (.func 135) [] [])) [(.t 7)]⟩,
    ⟨(some 6), none, .move (.t 8)⟩])
  (.seq (.ops [⟨(some 9), none, .move (.t 6)⟩,
    ⟨(some 10), none, .bin .neq (.t 9) (.c (.sc (.int .i64 (0))))⟩])
  (.cond (.t 10)
   (.seq (.ops [⟨(some 11), none, .move (.t 6)⟩,
     ⟨(some 4), none, .move (.c (.sc (.int .i64 (0))))⟩,
     ⟨(some 5), none, .move (.t 11)⟩])
   (.ret))
   (.skip))))
  (.seq (.seq (.ops [⟨(some 12), none, .move (.t 1)⟩,
    ⟨(some 13), none, .call (.c (.fn (.func 226) [] [])) [(.t 12)]⟩,
    ⟨(some 14), none, .un .not (.t 13)⟩])
  (.cond (.t 14)
   (.seq (.ops [⟨(some 4), none, .move (.c (.sc (.int .i64 (0))))⟩,
     ⟨(some 5), none, .move (.c (.sc (.int .i64 (18))))⟩])
   (.ret))
   (.skip)))
  (.seq (.ops [⟨(some 15), none, .move (.t 0)⟩,
    ⟨(some 16), none, .move (.t 1)⟩,
    ⟨(some 17), none, .call (.c (.fn (.func 227) [] [])) [(.t 15), (.t 16)]⟩,
    ⟨(some 4), none, .move (.t 17)⟩,
    ⟨(some 5), none, .move (.c (.sc (.int .i64 (0))))⟩])
  (.ret)))),
  [.t 4, .t 5]⟩
theorem ok137 : EntryOk Tryz.prog 137 af137 := ⟨Tryz.f137, _, Tryz.func137, by decide, rfl, by kernel_rfl, by kernel_rfl, rfl⟩
/-- slices.pdqsortCmpFunc[hemiola/perform.place] -/
noncomputable def af143 : AF := ⟨148, .seq (.ops [⟨(some 10), none, .move (.c (.sc (.bool true)))⟩])
  (.seq (.ops [⟨(some 11), none, .move (.c (.sc (.bool true)))⟩])
  (.block 0 (.loop (.block 1 (.seq (.ops [⟨(some 21), none, .move (.t 2)⟩,
       ⟨(some 22), none, .move (.t 1)⟩,
       ⟨(some 23), none, .bin .sub (.t 21) (.t 22)⟩,
       ⟨(some 12), none, .move (.t 23)⟩])
     (.seq (.seq (.ops [⟨(some 24), none, .move (.t 12)⟩,
       ⟨(some 25), none, .bin .leq (.t 24) (.c (.sc (.int .i64 (12))))⟩])
     (.cond (.t 25)
      (.seq (.ops [⟨(some 26), none, .move (.t 0)⟩,
        ⟨(some 27), none, .move (.t 1)⟩,
        ⟨(some 28), none, .move (.t 2)⟩,
        ⟨(some 29), none, .move (.t 4)⟩,
        ⟨(some 30), none, .call (.c (.fn (.func 231) [] [])) [(.t 26), (.t 27), (.t 28), (.t 29)]⟩])
      (.ret))
      (.skip)))
     (.seq (.seq (.ops [⟨(some 31), none, .move (.t 3)⟩,
       ⟨(some 32), none, .bin .eql (.t 31) (.c (.sc (.int .i64 (0))))⟩])
     (.cond (.t 32)
      (.seq (.ops [⟨(some 33), none, .move (.t 0)⟩,
        ⟨(some 34), none, .move (.t 1)⟩,
        ⟨(some 35), none, .move (.t 2)⟩,
        ⟨(some 36), none, .move (.t 4)⟩,
        ⟨(some 37), none, .call (.c (.fn (.func 232) [] [])) [(.t 33), (.t 34), (.t 35), (.t 36)]⟩])
      (.ret))
      (.skip)))
     (.seq (.seq (.ops [⟨(some 38), none, .move (.t 10)⟩,
       ⟨(some 39), none, .un .not (.t 38)⟩])
     (.cond (.t 39)
      (.seq (.ops [⟨(some 40), none, .move (.t 0)⟩,
        ⟨(some 41), none, .move (.t 1)⟩,
        ⟨(some 42), none, .move (.t 2)⟩,
        ⟨(some 43), none, .move (.t 4)⟩,
        ⟨(some 44), none, .call (.c (.fn (.func 233) [] [])) [(.t 40), (.t 41), (.t 42), (.t 43)]⟩])
      (.ops [⟨(some 45), none, .move (.t 3)⟩,
        ⟨(some 46), none, .bin .sub (.t 45) (.c (.sc (.int .i64 (1))))⟩,
        ⟨(some 3), none, .move (.t 46)⟩]))
      (.skip)))
     (.seq (.ops [⟨(some 48), none, .move (.t 0)⟩,
       ⟨(some 49), none, .move (.t 1)⟩,
       ⟨(some 50), none, .move (.t 2)⟩,
       ⟨(some 51), none, .move (.t 4)⟩,
       ⟨(some 52), none, .call (.c (.fn (.func 234) [] [])) [(.t 48), (.t 49), (.t 50), (.t 51)]⟩,
       ⟨(some 47), none, .move (.t 52)⟩,
       ⟨(some 53), none, .extract 0 (.t 47)⟩,
       ⟨(some 54), none, .extract 1 (.t 47)⟩,
       ⟨(some 13), none, .move (.t 53)⟩,
       ⟨(some 14), none, .move (.t 54)⟩])
     (.seq (.seq (.ops [⟨(some 55), none, .move (.t 14)⟩,
       ⟨(some 56), none, .bin .eql (.t 55) (.c (.sc (.int .i64 (2))))⟩])
     (.cond (.t 56)
      (.seq (.ops [⟨(some 57), none, .move (.t 0)⟩,
        ⟨(some 58), none, .move (.t 1)⟩,
        ⟨(some 59), none, .move (.t 2)⟩,
        ⟨(some 60), none, .move (.t 4)⟩,
        ⟨(some 61), none, .call (.c (.fn (.func 235) [] [])) [(.t 57), (.t 58), (.t 59), (.t 60)]⟩])
      (.seq (.ops [⟨(some 62), none, .move (.t 2)⟩,
        ⟨(some 63), none, .bin .sub (.t 62) (.c (.sc (.int .i64 (1))))⟩,
        ⟨(some 64), none, .move (.t 13)⟩,
        ⟨(some 65), none, .move (.t 1)⟩,
        ⟨(some 66), none, .bin .sub (.t 64) (.t 65)⟩,
        ⟨(some 67), none, .bin .sub (.t 63) (.t 66)⟩,
        ⟨(some 13), none, .move (.t 67)⟩])
      (.ops [⟨(some 14), none, .move (.c (.sc (.int .i64 (1))))⟩])))
      (.skip)))
     (.seq (.seq (.ops [⟨(some 68), none, .move (.t 10)⟩,
       ⟨(some 69), none, .move (.t 68)⟩,
       ⟨(some 70), (some (69, true)), .move (.t 11)⟩,
       ⟨(some 71), none, .pick (.t 69) (.t 70) (.c (.sc (.bool false)))⟩,
       ⟨(some 72), none, .move (.t 71)⟩,
       ⟨(some 73), (some (72, true)), .move (.t 14)⟩,
       ⟨(some 74), (some (72, true)), .bin .eql (.t 73) (.c (.sc (.int .i64 (1))))⟩,
       ⟨(some 75), none, .pick (.t 72) (.t 74) (.c (.sc (.bool false)))⟩])
     (.cond (.t 75)
      (.seq (.ops [⟨(some 76), none, .move (.t 0)⟩,
        ⟨(some 77), none, .move (.t 1)⟩,
        ⟨(some 78), none, .move (.t 2)⟩,
        ⟨(some 79), none, .move (.t 4)⟩,
        ⟨(some 80), none, .call (.c (.fn (.func 236) [] [])) [(.t 76), (.t 77), (.t 78), (.t 79)]⟩])
      (.cond (.t 80)
       (.ret)
       (.skip)))
      (.skip)))
     (.seq (.seq (.draw [⟨true, [1], [], ⟨(some 81), none, .move (.t 1)⟩⟩,
       ⟨true, [81], [], ⟨(some 82), none, .bin .gtr (.t 81) (.c (.sc (.int .i64 (0))))⟩⟩,
       ⟨true, [82], [], ⟨(some 83), none, .move (.t 82)⟩⟩,
       ⟨false, [4, 83], [], ⟨(some 84), (some (83, true)), .move (.t 4)⟩⟩,
       ⟨false, [0, 83], [], ⟨(some 85), (some (83, true)), .move (.t 0)⟩⟩,
       ⟨false, [1, 83], [], ⟨(some 86), (some (83, true)), .move (.t 1)⟩⟩,
       ⟨false, [86, 83], [], ⟨(some 87), (some (83, true)), .bin .sub (.t 86) (.c (.sc (.int .i64 (1))))⟩⟩,
       ⟨false, [85, 87, 83], [], ⟨(some 88), (some (83, true)), .iaddrS 18 (.t 85) (.t 87)⟩⟩,
       ⟨false, [88, 83], [], ⟨(some 89), (some (83, true)), .load (some 18) (.t 88)⟩⟩,
       ⟨false, [0, 83], [], ⟨(some 90), (some (83, true)), .move (.t 0)⟩⟩,
       ⟨false, [13, 83], [], ⟨(some 91), (some (83, true)), .move (.t 13)⟩⟩,
       ⟨false, [90, 91, 83], [], ⟨(some 92), (some (83, true)), .iaddrS 18 (.t 90) (.t 91)⟩⟩,
       ⟨false, [92, 83], [], ⟨(some 93), (some (83, true)), .load (some 18) (.t 92)⟩⟩]
       [⟨(some 94), (some (83, true)), .call (.t 84) [(.t 89), (.t 93)]⟩,
       ⟨(some 95), (some (83, true)), .bin .lss (.t 94) (.c (.sc (.int .i64 (0))))⟩,
       ⟨(some 96), (some (83, true)), .un .not (.t 95)⟩,
       ⟨(some 97), none, .pick (.t 83) (.t 96) (.c (.sc (.bool false)))⟩])
     (.cond (.t 97)
      (.seq (.ops [⟨(some 98), none, .move (.t 0)⟩,
        ⟨(some 99), none, .move (.t 1)⟩,
        ⟨(some 100), none, .move (.t 2)⟩,
        ⟨(some 101), none, .move (.t 13)⟩,
        ⟨(some 102), none, .move (.t 4)⟩,
        ⟨(some 103), none, .call (.c (.fn (.func 237) [] [])) [(.t 98), (.t 99), (.t 100), (.t 101), (.t 102)]⟩,
        ⟨(some 15), none, .move (.t 103)⟩])
      (.seq (.ops [⟨(some 104), none, .move (.t 15)⟩,
        ⟨(some 1), none, .move (.t 104)⟩])
      (.exit 1)))
      (.skip)))
     (.seq (.ops [⟨(some 106), none, .move (.t 0)⟩,
       ⟨(some 107), none, .move (.t 1)⟩,
       ⟨(some 108), none, .move (.t 2)⟩,
       ⟨(some 109), none, .move (.t 13)⟩,
       ⟨(some 110), none, .move (.t 4)⟩,
       ⟨(some 111), none, .call (.c (.fn (.func 238) [] [])) [(.t 106), (.t 107), (.t 108), (.t 109), (.t 110)]⟩,
       ⟨(some 105), none, .move (.t 111)⟩,
       ⟨(some 112), none, .extract 0 (.t 105)⟩,
       ⟨(some 113), none, .extract 1 (.t 105)⟩,
       ⟨(some 16), none, .move (.t 112)⟩,
       ⟨(some 17), none, .move (.t 113)⟩])
     (.seq (.ops [⟨(some 114), none, .move (.t 17)⟩,
       ⟨(some 11), none, .move (.t 114)⟩])
     (.seq (.ops [⟨(some 115), none, .move (.t 16)⟩,
       ⟨(some 116), none, .move (.t 1)⟩,
       ⟨(some 117), none, .bin .sub (.t 115) (.t 116)⟩,
       ⟨(some 118), none, .move (.t 2)⟩,
       ⟨(some 119), none, .move (.t 16)⟩,
       ⟨(some 120), none, .bin .sub (.t 118) (.t 119)⟩,
       ⟨(some 18), none, .move (.t 117)⟩,
       ⟨(some 19), none, .move (.t 120)⟩])
     (.seq (.ops [⟨(some 121), none, .move (.t 12)⟩,
       ⟨(some 122), none, .bin .quo (.t 121) (.c (.sc (.int .i64 (8))))⟩,
       ⟨(some 20), none, .move (.t 122)⟩])
     (.seq (.ops [⟨(some 123), none, .move (.t 18)⟩,
       ⟨(some 124), none, .move (.t 19)⟩,
       ⟨(some 125), none, .bin .lss (.t 123) (.t 124)⟩])
     (.cond (.t 125)
      (.seq (.ops [⟨(some 126), none, .move (.t 18)⟩,
        ⟨(some 127), none, .move (.t 20)⟩,
        ⟨(some 128), none, .bin .geq (.t 126) (.t 127)⟩,
        ⟨(some 10), none, .move (.t 128)⟩])
      (.seq (.ops [⟨(some 129), none, .move (.t 0)⟩,
        ⟨(some 130), none, .move (.t 1)⟩,
        ⟨(some 131), none, .move (.t 16)⟩,
        ⟨(some 132), none, .move (.t 3)⟩,
        ⟨(some 133), none, .move (.t 4)⟩,
        ⟨(some 134), none, .call (.c (.fn (.func 143) [] [])) [(.t 129), (.t 130), (.t 131), (.t 132), (.t 133)]⟩])
      (.ops [⟨(some 135), none, .move (.t 16)⟩,
        ⟨(some 136), none, .bin .add (.t 135) (.c (.sc (.int .i64 (1))))⟩,
        ⟨(some 1), none, .move (.t 136)⟩])))
      (.seq (.ops [⟨(some 137), none, .move (.t 19)⟩,
        ⟨(some 138), none, .move (.t 20)⟩,
        ⟨(some 139), none, .bin .geq (.t 137) (.t 138)⟩,
        ⟨(some 10), none, .move (.t 139)⟩])
      (.seq (.ops [⟨(some 140), none, .move (.t 0)⟩,
        ⟨(some 141), none, .move (.t 16)⟩,
        ⟨(some 142), none, .bin .add (.t 141) (.c (.sc (.int .i64 (1))))⟩,
        ⟨(some 143), none, .move (.t 2)⟩,
        ⟨(some 144), none, .move (.t 3)⟩,
        ⟨(some 145), none, .move (.t 4)⟩,
        ⟨(some 146), none, .call (.c (.fn (.func 143) [] [])) [(.t 140), (.t 142), (.t 143), (.t 144), (.t 145)]⟩])
      (.ops [⟨(some 147), none, .move (.t 16)⟩,
        ⟨(some 2), none, .move (.t 147)⟩]))))))))))))))))))))),
  []⟩
theorem ok143 : EntryOk Tryz.prog 143 af143 := ⟨Tryz.f143, _, Tryz.func143, by decide, rfl, by kernel_rfl, by kernel_rfl, rfl⟩
/-- hemiola/check.plain -/
noncomputable def af165 : AF := ⟨14, .seq (.ops [⟨(some 2), none, .move (.c (.sc (.bool false)))⟩])
  (.seq (.ops [⟨(some 3), none, .move (.c (.fn (.func 252) [] []))⟩])
  (.seq (.ops [⟨(some 4), none, .move (.t 0)⟩,
    ⟨(some 5), none, .lenStr (.t 4)⟩,
    ⟨(some 6), none, .bin .leq (.t 5) (.c (.sc (.int .i64 (256))))⟩,
    ⟨(some 7), none, .move (.t 6)⟩,
    ⟨(some 8), (some (7, true)), .move (.t 0)⟩,
    ⟨(some 9), (some (7, true)), .strBytes (.t 8)⟩,
    ⟨(some 10), (some (7, true)), .move (.t 3)⟩,
    ⟨(some 11), (some (7, true)), .call (.c (.fn (.func 253) [] [])) [(.t 9), (.t 10)]⟩,
    ⟨(some 12), (some (7, true)), .un .not (.t 11)⟩,
    ⟨(some 13), none, .pick (.t 7) (.t 12) (.c (.sc (.bool false)))⟩,
    ⟨(some 2), none, .move (.t 13)⟩])
  (.ret))),
  [.t 2]⟩
theorem ok165 : EntryOk Tryz.prog 165 af165 := ⟨Tryz.f165, _, Tryz.func165, by decide, rfl, by kernel_rfl, by kernel_rfl, rfl⟩
/-- hemiola/check.proper -/
noncomputable def af169 : AF := ⟨11, .seq (.ops [⟨(some 1), none, .box (.t 0)⟩,
    ⟨(some 2), none, .move (.c (.sc (.bool false)))⟩])
  (.seq (.ops [⟨(some 3), none, .faddr 0 (.t 1)⟩,
    ⟨(some 4), none, .load none (.t 3)⟩,
    ⟨(some 5), none, .call (.c (.fn (.func 166) [] [])) [(.t 4), (.c (.sc (.int .i64 (0)))), (.c (.sc (.int .i64 (99))))]⟩,
    ⟨(some 6), none, .move (.t 5)⟩,
    ⟨(some 7), (some (6, true)), .faddr 1 (.t 1)⟩,
    ⟨(some 8), (some (6, true)), .load none (.t 7)⟩,
    ⟨(some 9), (some (6, true)), .call (.c (.fn (.func 166) [] [])) [(.t 8), (.c (.sc (.int .i64 (1)))), (.c (.sc (.int .i64 (1073741824))))]⟩,
    ⟨(some 10), none, .pick (.t 6) (.t 9) (.c (.sc (.bool false)))⟩,
    ⟨(some 2), none, .move (.t 10)⟩])
  (.ret)),
  [.t 2]⟩
theorem ok169 : EntryOk Tryz.prog 169 af169 := ⟨Tryz.f169, _, Tryz.func169, by decide, rfl, by kernel_rfl, by kernel_rfl, rfl⟩
/-- hemiola/clef.Check -/
noncomputable def af173 : AF := ⟨11, .seq (.ops [⟨(some 2), none, .move (.c (.sc (.int .i64 (0))))⟩])
  (.seq (.ops [⟨(some 6), none, .move (.t 0)⟩,
    ⟨(some 7), none, .call (.c (.fn (.func 255) [] [])) [(.t 6)]⟩,
    ⟨(some 5), none, .move (.t 7)⟩,
    ⟨(some 8), none, .extract 0 (.t 5)⟩,
    ⟨(some 9), none, .extract 1 (.t 5)⟩,
    ⟨(some 3), none, .alloc [(.sc (.string ⟨#[]⟩)), (.sc (.int .u8 (0))), (.sc (.int .i64 (0))), (.sc (.int .i64 (0))), (.sc (.int .i64 (0))), (.sc (.int .i64 (0))), (.sc (.int .i64 (0)))]⟩,
    ⟨none, none, .store 7 (.t 3) (.t 8)⟩,
    ⟨(some 4), none, .move (.t 9)⟩])
  (.seq (.ops [⟨(some 10), none, .move (.t 4)⟩,
    ⟨(some 2), none, .move (.t 10)⟩])
  (.ret))),
  [.t 2]⟩
theorem ok173 : EntryOk Tryz.prog 173 af173 := ⟨Tryz.f173, _, Tryz.func173, by decide, rfl, by kernel_rfl, by kernel_rfl, rfl⟩
/-- hemiola/check.lacks -/
noncomputable def af177 : AF := ⟨9, .seq (.ops [⟨(some 2), none, .move (.c (.sc (.bool false)))⟩])
  (.seq (.ops [⟨(some 3), none, .move (.t 0)⟩,
    ⟨(some 4), none, .bin .eql (.t 3) (.c (.sc (.int .i64 (11))))⟩,
    ⟨(some 5), none, .move (.t 4)⟩,
    ⟨(some 6), (some (5, false)), .move (.t 0)⟩,
    ⟨(some 7), (some (5, false)), .bin .eql (.t 6) (.c (.sc (.int .i64 (20))))⟩,
    ⟨(some 8), none, .pick (.t 5) (.c (.sc (.bool true))) (.t 7)⟩,
    ⟨(some 2), none, .move (.t 8)⟩])
  (.ret)),
  [.t 2]⟩
theorem ok177 : EntryOk Tryz.prog 177 af177 := ⟨Tryz.f177, _, Tryz.func177, by decide, rfl, by kernel_rfl, by kernel_rfl, rfl⟩
/-- hemiola/event.Check -/
noncomputable def af181 : AF := ⟨70, .seq (.ops [⟨(some 1), none, .box (.t 0)⟩,
    ⟨(some 2), none, .move (.c (.sc (.int .i64 (0))))⟩])
  (.seq (.seq (.draw [⟨false, [1], [], ⟨(some 5), none, .faddr 0 (.t 1)⟩⟩,
    ⟨false, [5], [], ⟨(some 6), none, .faddr 0 (.t 5)⟩⟩,
    ⟨false, [6], [], ⟨(some 7), none, .load none (.t 6)⟩⟩,
    ⟨true, [7], [], ⟨(some 8), none, .call (.c (.fn (.func 265) [] [])) [(.t 7), (.c (.sc (.int .i64 (99))))]⟩⟩,
    ⟨false, [1], [], ⟨(some 9), none, .faddr 0 (.t 1)⟩⟩,
    ⟨false, [9], [], ⟨(some 10), none, .faddr 1 (.t 9)⟩⟩,
    ⟨false, [10], [3], ⟨(some 11), none, .load none (.t 10)⟩⟩]
    [⟨(some 12), none, .call (.c (.fn (.func 265) [] [])) [(.t 11), (.c (.sc (.int .i64 (1073741824))))]⟩,
    ⟨(some 13), none, .buildSl 1 [(.t 8), (.t 12)]⟩,
    ⟨(some 14), none, .call (.c (.fn (.func 264) [] [])) [(.t 13)]⟩,
    ⟨(some 3), none, .move (.t 14)⟩])
  (.seq (.ops [⟨(some 15), none, .move (.t 3)⟩,
    ⟨(some 16), none, .bin .neq (.t 15) (.c (.sc (.int .i64 (0))))⟩])
  (.cond (.t 16)
   (.seq (.ops [⟨(some 17), none, .move (.t 3)⟩,
     ⟨(some 2), none, .move (.t 17)⟩])
   (.ret))
   (.skip))))
  (.seq (.seq (.ops [⟨(some 18), none, .faddr 2 (.t 1)⟩,
    ⟨(some 19), none, .load none (.t 18)⟩,
    ⟨(some 20), none, .call (.c (.fn (.func 266) [] [])) [(.t 19)]⟩,
    ⟨(some 21), none, .un .not (.t 20)⟩])
  (.cond (.t 21)
   (.seq (.ops [⟨(some 2), none, .move (.c (.sc (.int .i64 (11))))⟩])
   (.ret))
   (.skip)))
  (.seq (.seq (.draw [⟨false, [1], [2], ⟨(some 22), none, .load (some 13) (.t 1)⟩⟩,
    ⟨false, [1], [], ⟨(some 23), none, .load (some 13) (.t 1)⟩⟩,
    ⟨true, [23], [], ⟨(some 24), none, .call (.c (.fn (.func 268) [] [])) [(.t 23)]⟩⟩]
    [⟨(some 25), none, .call (.c (.fn (.func 267) [] [])) [(.t 22), (.t 24)]⟩,
    ⟨(some 26), none, .un .not (.t 25)⟩])
  (.cond (.t 26)
   (.seq (.ops [⟨(some 2), none, .move (.c (.sc (.int .i64 (3))))⟩])
   (.ret))
   (.skip)))
  (.seq (.seq (.ops [⟨(some 27), none, .faddr 2 (.t 1)⟩,
    ⟨(some 28), none, .load none (.t 27)⟩,
    ⟨(some 29), none, .bin .neq (.t 28) (.c (.sc (.int .i64 (3))))⟩,
    ⟨(some 30), none, .move (.t 29)⟩,
    ⟨(some 31), (some (30, true)), .faddr 3 (.t 1)⟩,
    ⟨(some 32), (some (30, true)), .load (some 2) (.t 31)⟩,
    ⟨(some 33), (some (30, true)), .call (.c (.fn (.func 269) [] [])) [(.t 32)]⟩,
    ⟨(some 34), (some (30, true)), .bin .neq (.t 33) (.c (.sc (.int .i64 (0))))⟩,
    ⟨(some 35), none, .pick (.t 30) (.t 34) (.c (.sc (.bool false)))⟩])
  (.cond (.t 35)
   (.seq (.ops [⟨(some 2), none, .move (.c (.sc (.int .i64 (17))))⟩])
   (.ret))
   (.skip)))
  (.seq (.seq (.ops [⟨(some 36), none, .faddr 2 (.t 1)⟩,
    ⟨(some 37), none, .load none (.t 36)⟩,
    ⟨(some 38), none, .bin .eql (.t 37) (.c (.sc (.int .i64 (1))))⟩])
  (.cond (.t 38)
   (.seq (.draw [⟨false, [1], [], ⟨(some 39), none, .faddr 5 (.t 1)⟩⟩,
     ⟨false, [39], [], ⟨(some 40), none, .load none (.t 39)⟩⟩,
     ⟨true, [40], [], ⟨(some 41), none, .call (.c (.fn (.func 270) [] [])) [(.t 40)]⟩⟩,
     ⟨false, [1], [], ⟨(some 42), none, .faddr 6 (.t 1)⟩⟩,
     ⟨false, [42], [2], ⟨(some 43), none, .load none (.t 42)⟩⟩,
     ⟨true, [43], [], ⟨(some 44), none, .call (.c (.fn (.func 133) [] [])) [(.t 43)]⟩⟩,
     ⟨false, [1], [], ⟨(some 45), none, .faddr 10 (.t 1)⟩⟩,
     ⟨false, [45], [2, 5], ⟨(some 46), none, .load none (.t 45)⟩⟩]
     [⟨(some 47), none, .call (.c (.fn (.func 271) [] [])) [(.t 46)]⟩,
     ⟨(some 48), none, .buildSl 1 [(.t 41), (.t 44), (.t 47)]⟩,
     ⟨(some 49), none, .call (.c (.fn (.func 264) [] [])) [(.t 48)]⟩,
     ⟨(some 4), none, .move (.t 49)⟩])
   (.seq (.ops [⟨(some 50), none, .move (.t 4)⟩,
     ⟨(some 51), none, .bin .neq (.t 50) (.c (.sc (.int .i64 (0))))⟩])
   (.cond (.t 51)
    (.seq (.ops [⟨(some 52), none, .move (.t 4)⟩,
      ⟨(some 2), none, .move (.t 52)⟩])
    (.ret))
    (.skip))))
   (.skip)))
  (.seq (.draw [⟨false, [1], [], ⟨(some 53), none, .faddr 7 (.t 1)⟩⟩,
    ⟨false, [53], [], ⟨(some 54), none, .load none (.t 53)⟩⟩,
    ⟨true, [54], [], ⟨(some 55), none, .call (.c (.fn (.func 265) [] [])) [(.t 54), (.c (.sc (.int .i64 (31))))]⟩⟩,
    ⟨false, [1], [], ⟨(some 56), none, .faddr 8 (.t 1)⟩⟩,
    ⟨false, [56], [2], ⟨(some 57), none, .load none (.t 56)⟩⟩,
    ⟨true, [57], [], ⟨(some 58), none, .call (.c (.fn (.func 265) [] [])) [(.t 57), (.c (.sc (.int .i64 (4))))]⟩⟩,
    ⟨false, [1], [], ⟨(some 59), none, .faddr 9 (.t 1)⟩⟩,
    ⟨false, [59], [2, 5], ⟨(some 60), none, .load none (.t 59)⟩⟩,
    ⟨true, [60], [], ⟨(some 61), none, .call (.c (.fn (.func 265) [] [])) [(.t 60), (.c (.sc (.int .i64 (9))))]⟩⟩,
    ⟨false, [1], [], ⟨(some 62), none, .faddr 11 (.t 1)⟩⟩,
    ⟨false, [62], [2, 5, 8], ⟨(some 63), none, .load none (.t 62)⟩⟩,
    ⟨true, [63], [], ⟨(some 64), none, .call (.c (.fn (.func 265) [] [])) [(.t 63), (.c (.sc (.int .i64 (2))))]⟩⟩,
    ⟨false, [1], [], ⟨(some 65), none, .faddr 12 (.t 1)⟩⟩,
    ⟨false, [65], [2, 5, 8, 11], ⟨(some 66), none, .load none (.t 65)⟩⟩]
    [⟨(some 67), none, .call (.c (.fn (.func 265) [] [])) [(.t 66), (.c (.sc (.int .i64 (2))))]⟩,
    ⟨(some 68), none, .buildSl 1 [(.t 55), (.t 58), (.t 61), (.t 64), (.t 67)]⟩,
    ⟨(some 69), none, .call (.c (.fn (.func 264) [] [])) [(.t 68)]⟩,
    ⟨(some 2), none, .move (.t 69)⟩])
  (.ret))))))),
  [.t 2]⟩
theorem ok181 : EntryOk Tryz.prog 181 af181 := ⟨Tryz.f181, _, Tryz.func181, by decide, rfl, by kernel_rfl, by kernel_rfl, rfl⟩
/-- (*hemiola/check.checker).pitches$1$2 -/
noncomputable def af185 : AF := ⟨8, .seq (.ops [⟨(some 2), none, .box (.t 0)⟩,
    ⟨(some 3), none, .move (.c (.sc (.bool false)))⟩])
  (.seq (.ops [⟨(some 4), none, .load none (.t 1)⟩,
    ⟨(some 5), none, .faddr 0 (.t 2)⟩,
    ⟨(some 6), none, .load (some 3) (.t 5)⟩,
    ⟨(some 7), none, .call (.t 4) [(.t 6)]⟩,
    ⟨(some 3), none, .move (.t 7)⟩])
  (.ret)),
  [.t 3]⟩
theorem ok185 : EntryOk Tryz.prog 185 af185 := ⟨Tryz.f185, _, Tryz.func185, by decide, rfl, by kernel_rfl, by kernel_rfl, rfl⟩
/-- hemiola/score.Next -/
noncomputable def af190 : AF := ⟨54, .seq (.ops [⟨(some 2), none, .box (.t 0)⟩,
    ⟨(some 3), none, .box (.t 1)⟩,
    ⟨(some 4), none, .alloc [(.sc (.int .i64 (0))), (.sc (.int .i64 (0))), (.sc (.int .i64 (0))), (.sc (.int .i64 (0))), (.sc (.int .i64 (0))), (.sc (.int .i64 (0))), (.sc (.int .i64 (0)))]⟩,
    ⟨(some 5), none, .move (.c (.sc (.bool false)))⟩])
  (.seq (.seq (.ops [⟨(some 6), none, .load (some 6) (.t 2)⟩,
    ⟨(some 7), none, .load (some 7) (.t 3)⟩,
    ⟨(some 8), none, .call (.c (.fn (.func 275) [] [])) [(.t 6), (.t 7)]⟩,
    ⟨(some 9), none, .bin .neq (.t 8) (.c (.sc (.int .i64 (0))))⟩])
  (.cond (.t 9)
   (.seq (.ops [⟨(some 10), none, .build [(.sc (.int .i64 (0))), (.sc (.int .i64 (0))), (.sc (.int .i64 (0))), (.sc (.int .i64 (0))), (.sc (.int .i64 (0))), (.sc (.int .i64 (0))), (.sc (.int .i64 (0)))] []⟩,
     ⟨none, none, .store 7 (.t 4) (.t 10)⟩,
     ⟨(some 5), none, .move (.c (.sc (.bool false)))⟩])
   (.ret))
   (.skip)))
  (.seq (.seq (.draw [⟨false, [3], [], ⟨(some 11), none, .faddr 5 (.t 3)⟩⟩,
    ⟨false, [11], [10], ⟨(some 12), none, .load none (.t 11)⟩⟩,
    ⟨false, [12], [], ⟨(some 13), none, .bin .add (.t 12) (.c (.sc (.int .i64 (1))))⟩⟩,
    ⟨false, [2], [], ⟨(some 14), none, .load (some 6) (.t 2)⟩⟩,
    ⟨false, [3], [], ⟨(some 15), none, .faddr 3 (.t 3)⟩⟩,
    ⟨false, [15], [], ⟨(some 16), none, .load none (.t 15)⟩⟩,
    ⟨false, [3], [], ⟨(some 17), none, .faddr 2 (.t 3)⟩⟩,
    ⟨false, [17], [], ⟨(some 18), none, .load none (.t 17)⟩⟩,
    ⟨false, [3], [], ⟨(some 19), none, .faddr 4 (.t 3)⟩⟩,
    ⟨false, [19], [], ⟨(some 20), none, .load none (.t 19)⟩⟩,
    ⟨true, [14, 16, 18, 20], [], ⟨(some 21), none, .call (.c (.fn (.func 276) [] [])) [(.t 14), (.t 16), (.t 18), (.t 20)]⟩⟩,
    ⟨false, [21], [], ⟨(some 22), none, .len (.t 21)⟩⟩]
    [⟨(some 23), none, .bin .lss (.t 13) (.t 22)⟩])
  (.cond (.t 23)
   (.seq (.ops [⟨(some 24), none, .faddr 3 (.t 3)⟩,
     ⟨(some 25), none, .load none (.t 24)⟩,
     ⟨(some 26), none, .faddr 2 (.t 3)⟩,
     ⟨(some 27), none, .load none (.t 26)⟩,
     ⟨(some 28), none, .faddr 4 (.t 3)⟩,
     ⟨(some 29), none, .load none (.t 28)⟩,
     ⟨(some 30), none, .faddr 5 (.t 3)⟩,
     ⟨(some 31), none, .load none (.t 30)⟩,
     ⟨(some 32), none, .bin .add (.t 31) (.c (.sc (.int .i64 (1))))⟩,
     ⟨(some 33), none, .call (.c (.fn (.func 277) [] [])) [(.t 25), (.t 27), (.t 29), (.t 32)]⟩,
     ⟨none, none, .store 7 (.t 4) (.t 33)⟩,
     ⟨(some 5), none, .move (.c (.sc (.bool true)))⟩])
   (.ret))
   (.skip)))
  (.seq (.seq (.ops [⟨(some 34), none, .load (some 6) (.t 2)⟩,
    ⟨(some 35), none, .faddr 3 (.t 3)⟩,
    ⟨(some 36), none, .load none (.t 35)⟩,
    ⟨(some 37), none, .bin .add (.t 36) (.c (.sc (.int .i64 (1))))⟩,
    ⟨(some 38), none, .faddr 2 (.t 3)⟩,
    ⟨(some 39), none, .load none (.t 38)⟩,
    ⟨(some 40), none, .faddr 4 (.t 3)⟩,
    ⟨(some 41), none, .load none (.t 40)⟩,
    ⟨(some 42), none, .call (.c (.fn (.func 276) [] [])) [(.t 34), (.t 37), (.t 39), (.t 41)]⟩,
    ⟨(some 43), none, .len (.t 42)⟩,
    ⟨(some 44), none, .bin .gtr (.t 43) (.c (.sc (.int .i64 (0))))⟩])
  (.cond (.t 44)
   (.seq (.ops [⟨(some 45), none, .faddr 3 (.t 3)⟩,
     ⟨(some 46), none, .load none (.t 45)⟩,
     ⟨(some 47), none, .bin .add (.t 46) (.c (.sc (.int .i64 (1))))⟩,
     ⟨(some 48), none, .faddr 2 (.t 3)⟩,
     ⟨(some 49), none, .load none (.t 48)⟩,
     ⟨(some 50), none, .faddr 4 (.t 3)⟩,
     ⟨(some 51), none, .load none (.t 50)⟩,
     ⟨(some 52), none, .call (.c (.fn (.func 277) [] [])) [(.t 47), (.t 49), (.t 51), (.c (.sc (.int .i64 (0))))]⟩,
     ⟨none, none, .store 7 (.t 4) (.t 52)⟩,
     ⟨(some 5), none, .move (.c (.sc (.bool true)))⟩])
   (.ret))
   (.skip)))
  (.seq (.ops [⟨(some 53), none, .build [(.sc (.int .i64 (0))), (.sc (.int .i64 (0))), (.sc (.int .i64 (0))), (.sc (.int .i64 (0))), (.sc (.int .i64 (0))), (.sc (.int .i64 (0))), (.sc (.int .i64 (0)))] []⟩,
    ⟨none, none, .store 7 (.t 4) (.t 53)⟩,
    ⟨(some 5), none, .move (.c (.sc (.bool false)))⟩])
  (.ret))))),
  [.c 4 (some 7), .t 5]⟩
theorem ok190 : EntryOk Tryz.prog 190 af190 := ⟨Tryz.f190, _, Tryz.func190, by decide, rfl, by kernel_rfl, by kernel_rfl, rfl⟩
/-- (*hemiola/check.checker).repeats$1 -/
noncomputable def af197 : AF := ⟨20, .seq (.ops [⟨(some 3), none, .box (.t 1)⟩,
    ⟨(some 4), none, .move (.c (.sc (.bool false)))⟩])
  (.seq (.ops [⟨(some 5), none, .faddr 13 (.t 3)⟩,
    ⟨(some 6), none, .load none (.t 5)⟩,
    ⟨(some 7), none, .bin .neq (.t 6) (.c (.sc (.int .i64 (0))))⟩,
    ⟨(some 8), none, .move (.t 7)⟩,
    ⟨(some 9), (some (8, true)), .faddr 13 (.t 3)⟩,
    ⟨(some 10), (some (8, true)), .load none (.t 9)⟩,
    ⟨(some 11), (some (8, true)), .call (.c (.fn (.func 166) [] [])) [(.t 10), (.c (.sc (.int .i64 (2)))), (.c (.sc (.int .i64 (8))))]⟩,
    ⟨(some 12), (some (8, true)), .un .not (.t 11)⟩,
    ⟨(some 13), none, .pick (.t 8) (.t 12) (.c (.sc (.bool false)))⟩,
    ⟨(some 14), none, .move (.t 13)⟩,
    ⟨(some 15), (some (14, false)), .faddr 14 (.t 3)⟩,
    ⟨(some 16), (some (14, false)), .load none (.t 15)⟩,
    ⟨(some 17), (some (14, false)), .call (.c (.fn (.func 166) [] [])) [(.t 16), (.c (.sc (.int .i64 (0)))), (.c (.sc (.int .i64 (255))))]⟩,
    ⟨(some 18), (some (14, false)), .un .not (.t 17)⟩,
    ⟨(some 19), none, .pick (.t 14) (.c (.sc (.bool true))) (.t 18)⟩,
    ⟨(some 4), none, .move (.t 19)⟩])
  (.ret)),
  [.t 4]⟩
theorem ok197 : EntryOk Tryz.prog 197 af197 := ⟨Tryz.f197, _, Tryz.func197, by decide, rfl, by kernel_rfl, by kernel_rfl, rfl⟩
/-- (*hemiola/check.checker).placed -/
noncomputable def af203 : AF := ⟨34, .seq (.ops [⟨(some 3), none, .box (.t 0)⟩,
    ⟨(some 5), none, .box (.t 2)⟩,
    ⟨(some 6), none, .move (.c (.sc (.bool false)))⟩])
  (.seq (.ops [⟨(some 8), none, .mkFn (.func 291) [] [(.t 3), (.t 5)]⟩,
    ⟨(some 7), none, .move (.t 8)⟩])
  (.seq (.seq (.ops [⟨(some 9), none, .move (.t 1)⟩,
    ⟨(some 10), none, .bin .geq (.t 9) (.c (.sc (.int .i64 (4))))⟩,
    ⟨(some 11), none, .move (.t 10)⟩,
    ⟨(some 12), (some (11, true)), .move (.t 7)⟩,
    ⟨(some 13), (some (11, true)), .call (.t 12) [(.c (.sc (.int .i64 (1))))]⟩,
    ⟨(some 14), (some (11, true)), .un .not (.t 13)⟩,
    ⟨(some 15), none, .pick (.t 11) (.t 14) (.c (.sc (.bool false)))⟩])
  (.cond (.t 15)
   (.seq (.ops [⟨(some 6), none, .move (.c (.sc (.bool false)))⟩])
   (.ret))
   (.skip)))
  (.seq (.seq (.ops [⟨(some 16), none, .move (.t 1)⟩])
  (.block 0 (.seq (.seq (.ops [⟨(some 18), none, .bin .eql (.t 16) (.c (.sc (.int .i64 (2))))⟩,
     ⟨(some 17), none, .move (.t 18)⟩])
   (.cond (.t 17)
    (.skip)
    (.ops [⟨(some 19), none, .bin .eql (.t 16) (.c (.sc (.int .i64 (5))))⟩,
      ⟨(some 17), none, .move (.t 19)⟩])))
   (.cond (.t 17)
    (.seq (.ops [⟨(some 20), none, .move (.t 7)⟩,
      ⟨(some 21), none, .call (.t 20) [(.c (.sc (.int .i64 (4))))]⟩,
      ⟨(some 6), none, .move (.t 21)⟩])
    (.ret))
    (.seq (.seq (.ops [⟨(some 23), none, .bin .eql (.t 16) (.c (.sc (.int .i64 (3))))⟩,
      ⟨(some 22), none, .move (.t 23)⟩])
    (.cond (.t 22)
     (.skip)
     (.ops [⟨(some 24), none, .bin .eql (.t 16) (.c (.sc (.int .i64 (6))))⟩,
       ⟨(some 22), none, .move (.t 24)⟩])))
    (.cond (.t 22)
     (.seq (.draw [⟨true, [7], [], ⟨(some 25), none, .move (.t 7)⟩⟩,
       ⟨true, [25], [], ⟨(some 26), none, .call (.t 25) [(.c (.sc (.int .i64 (8))))]⟩⟩,
       ⟨true, [26], [], ⟨(some 27), none, .move (.t 26)⟩⟩,
       ⟨false, [3, 27], [], ⟨(some 28), (some (27, true)), .load none (.t 3)⟩⟩,
       ⟨true, [28, 27], [], ⟨(some 29), (some (27, true)), .call (.c (.fn (.func 292) [] [])) [(.t 28), (.c (.sc (.int .i64 (2))))]⟩⟩,
       ⟨false, [3, 27], [4], ⟨(some 30), (some (27, true)), .load none (.t 3)⟩⟩]
       [⟨(some 31), (some (27, true)), .call (.c (.fn (.func 292) [] [])) [(.t 30), (.c (.sc (.int .i64 (8))))]⟩,
       ⟨(some 32), (some (27, true)), .bin .gtr (.t 29) (.t 31)⟩,
       ⟨(some 33), none, .pick (.t 27) (.t 32) (.c (.sc (.bool false)))⟩,
       ⟨(some 6), none, .move (.t 33)⟩])
     (.ret))
     (.skip)))))))
  (.seq (.ops [⟨(some 6), none, .move (.c (.sc (.bool true)))⟩])
  (.ret))))),
  [.t 6]⟩
theorem ok203 : EntryOk Tryz.prog 203 af203 := ⟨Tryz.f203, _, Tryz.func203, by decide, rfl, by kernel_rfl, by kernel_rfl, rfl⟩
/-- hemiola/measure.Slots -/
noncomputable def af211 : AF := ⟨83, .seq (.ops [⟨(some 1), none, .box (.t 0)⟩,
    ⟨(some 2), none, .move (.c (.sl true .full 0 []))⟩,
    ⟨(some 3), none, .move (.c (.sc (.int .i64 (0))))⟩])
  (.seq (.ops [⟨(some 16), none, .load (some 22) (.t 1)⟩,
    ⟨(some 17), none, .call (.c (.fn (.func 55) [] [])) [(.t 16)]⟩,
    ⟨(some 15), none, .move (.t 17)⟩,
    ⟨(some 18), none, .extract 0 (.t 15)⟩,
    ⟨(some 19), none, .extract 1 (.t 15)⟩,
    ⟨(some 4), none, .move (.t 18)⟩,
    ⟨(some 5), none, .move (.t 19)⟩])
  (.seq (.ops [⟨(some 6), none, .move (.c (.sl true .full 0 []))⟩])
  (.seq (.skip)
  (.seq (.seq (.ops [⟨(some 20), none, .faddr 21 (.t 1)⟩,
    ⟨(some 21), none, .load none (.t 20)⟩,
    ⟨(some 22), none, .len (.t 21)⟩,
    ⟨(some 23), none, .move (.c (.sc (.int .i64 (0))))⟩])
  (.block 0 (.loop (.seq (.ops [⟨(some 24), none, .bin .lss (.t 23) (.t 22)⟩])
    (.seq (.cond (.t 24)
     (.skip)
     (.exit 0))
    (.seq (.block 1 (.seq (.ops [⟨(some 25), none, .move (.t 23)⟩,
       ⟨(some 26), none, .iaddrS 2 (.t 21) (.t 23)⟩,
       ⟨(some 27), none, .load (some 2) (.t 26)⟩,
       ⟨(some 8), none, .alloc [(.sl true .full 0 []), (.sl true .full 0 [])]⟩,
       ⟨(some 7), none, .move (.t 25)⟩,
       ⟨none, none, .store 2 (.t 8) (.t 27)⟩])
     (.seq (.ops [⟨(some 28), none, .faddr 1 (.t 8)⟩,
       ⟨(some 29), none, .load none (.t 28)⟩,
       ⟨(some 30), none, .len (.t 29)⟩,
       ⟨(some 31), none, .move (.c (.sc (.int .i64 (0))))⟩])
     (.block 2 (.loop (.seq (.ops [⟨(some 32), none, .bin .lss (.t 31) (.t 30)⟩])
       (.seq (.cond (.t 32)
        (.skip)
        (.exit 2))
       (.seq (.block 3 (.seq (.ops [⟨(some 33), none, .move (.t 31)⟩,
          ⟨(some 34), none, .iaddrS 2 (.t 29) (.t 31)⟩,
          ⟨(some 35), none, .load (some 2) (.t 34)⟩,
          ⟨(some 10), none, .alloc [(.sl true .full 0 []), (.sl true .full 0 [])]⟩,
          ⟨(some 9), none, .move (.t 33)⟩,
          ⟨none, none, .store 2 (.t 10) (.t 35)⟩])
        (.seq (.seq (.ops [⟨(some 36), none, .move (.t 5)⟩,
          ⟨(some 37), none, .bin .neq (.t 36) (.c (.sc (.int .i64 (0))))⟩])
        (.cond (.t 37)
         (.exit 0)
         (.skip)))
        (.seq (.seq (.ops [⟨(some 38), none, .load (some 2) (.t 10)⟩,
          ⟨(some 39), none, .call (.c (.fn (.func 296) [] [])) [(.t 38)]⟩,
          ⟨(some 40), none, .un .not (.t 39)⟩])
        (.cond (.t 40)
         (.exit 3)
         (.skip)))
        (.seq (.ops [⟨(some 11), none, .move (.c (.sl true .full 0 []))⟩])
        (.seq (.seq (.ops [⟨(some 42), none, .load (some 2) (.t 10)⟩,
          ⟨(some 43), none, .move (.t 4)⟩,
          ⟨(some 44), none, .call (.c (.fn (.func 56) [] [])) [(.t 42), (.t 43)]⟩,
          ⟨(some 41), none, .move (.t 44)⟩,
          ⟨(some 45), none, .extract 0 (.t 41)⟩,
          ⟨(some 46), none, .extract 1 (.t 41)⟩,
          ⟨(some 11), none, .move (.t 45)⟩,
          ⟨(some 5), none, .move (.t 46)⟩])
        (.seq (.ops [⟨(some 47), none, .move (.t 5)⟩,
          ⟨(some 48), none, .bin .neq (.t 47) (.c (.sc (.int .i64 (0))))⟩])
        (.cond (.t 48)
         (.exit 0)
         (.skip))))
        (.seq (.ops [⟨(some 49), none, .move (.t 11)⟩,
          ⟨(some 50), none, .len (.t 49)⟩,
          ⟨(some 51), none, .move (.c (.sc (.int .i64 (0))))⟩])
        (.block 4 (.loop (.seq (.ops [⟨(some 52), none, .bin .lss (.t 51) (.t 50)⟩])
          (.seq (.cond (.t 52)
           (.skip)
           (.exit 4))
          (.seq (.block 5 (.seq (.ops [⟨(some 53), none, .move (.t 51)⟩,
             ⟨(some 54), none, .iaddrS 1 (.t 49) (.t 51)⟩,
             ⟨(some 55), none, .load none (.t 54)⟩,
             ⟨(some 12), none, .move (.t 53)⟩,
             ⟨(some 13), none, .move (.t 55)⟩])
           (.seq (.ops [⟨(some 56), none, .move (.t 4)⟩,
             ⟨(some 14), none, .move (.t 56)⟩])
           (.seq (.seq (.ops [⟨(some 57), none, .move (.t 12)⟩,
             ⟨(some 58), none, .bin .add (.t 57) (.c (.sc (.int .i64 (1))))⟩,
             ⟨(some 59), none, .move (.t 11)⟩,
             ⟨(some 60), none, .len (.t 59)⟩,
             ⟨(some 61), none, .bin .lss (.t 58) (.t 60)⟩])
           (.cond (.t 61)
            (.ops [⟨(some 62), none, .move (.t 11)⟩,
              ⟨(some 63), none, .move (.t 12)⟩,
              ⟨(some 64), none, .bin .add (.t 63) (.c (.sc (.int .i64 (1))))⟩,
              ⟨(some 65), none, .iaddrS 1 (.t 62) (.t 64)⟩,
              ⟨(some 66), none, .load none (.t 65)⟩,
              ⟨(some 14), none, .move (.t 66)⟩])
            (.skip)))
           (.ops [⟨(some 67), none, .move (.t 6)⟩,
             ⟨(some 68), none, .move (.t 7)⟩,
             ⟨(some 69), none, .move (.t 9)⟩,
             ⟨(some 70), none, .move (.t 12)⟩,
             ⟨(some 71), none, .move (.t 13)⟩,
             ⟨(some 72), none, .move (.t 14)⟩,
             ⟨(some 73), none, .build [(.sc (.int .i64 (0))), (.sc (.int .i64 (0))), (.sc (.int .i64 (0))), (.sc (.int .i64 (0))), (.sc (.int .i64 (0)))] [((0, 1), (.t 68)), ((1, 1), (.t 69)), ((2, 1), (.t 70)), ((3, 1), (.t 71)), ((4, 1), (.t 72))]⟩,
             ⟨(some 74), none, .buildSl 5 [(.t 73)]⟩,
             ⟨(some 75), none, .append 5 40 (.t 67) (.t 74)⟩,
             ⟨(some 6), none, .move (.t 75)⟩])))))
          (.ops [⟨(some 76), none, .bin .add (.t 51) (.c (.sc (.int .i64 (1))))⟩,
            ⟨(some 51), none, .move (.t 76)⟩])))))))))))))
       (.ops [⟨(some 77), none, .bin .add (.t 31) (.c (.sc (.int .i64 (1))))⟩,
         ⟨(some 31), none, .move (.t 77)⟩])))))))))
    (.ops [⟨(some 78), none, .bin .add (.t 23) (.c (.sc (.int .i64 (1))))⟩,
      ⟨(some 23), none, .move (.t 78)⟩])))))))
  (.seq (.seq (.ops [⟨(some 79), none, .move (.t 5)⟩,
    ⟨(some 80), none, .bin .neq (.t 79) (.c (.sc (.int .i64 (0))))⟩])
  (.cond (.t 80)
   (.seq (.ops [⟨(some 81), none, .move (.t 5)⟩,
     ⟨(some 2), none, .move (.c (.sl true .full 0 []))⟩,
     ⟨(some 3), none, .move (.t 81)⟩])
   (.ret))
   (.skip)))
  (.seq (.ops [⟨(some 82), none, .move (.t 6)⟩,
    ⟨(some 2), none, .move (.t 82)⟩,
    ⟨(some 3), none, .move (.c (.sc (.int .i64 (0))))⟩])
  (.ret))))))),
  [.t 2, .t 3]⟩
theorem ok211 : EntryOk Tryz.prog 211 af211 := ⟨Tryz.f211, _, Tryz.func211, by decide, rfl, by kernel_rfl, by kernel_rfl, rfl⟩
/-- slices.Values[[]hemiola/api.Note,hemiola/api.Note]$1 -/
noncomputable def af215 : AF := ⟨16, .seq (.ops [⟨(some 5), none, .load none (.t 1)⟩,
    ⟨(some 6), none, .len (.t 5)⟩,
    ⟨(some 7), none, .move (.c (.sc (.int .i64 (0))))⟩])
  (.block 0 (.loop (.seq (.ops [⟨(some 8), none, .bin .lss (.t 7) (.t 6)⟩])
    (.seq (.cond (.t 8)
     (.skip)
     (.exit 0))
    (.seq (.block 1 (.seq (.ops [⟨(some 9), none, .iaddrS 9 (.t 5) (.t 7)⟩,
       ⟨(some 10), none, .load (some 9) (.t 9)⟩,
       ⟨(some 4), none, .alloc [(.sc (.int .i64 (0))), (.sc (.int .i64 (0))), (.sc (.int .i64 (0))), (.sc (.int .i64 (0))), (.sc (.int .i64 (0))), (.sc (.int .i64 (0))), (.sc (.int .i64 (0))), (.sc (.int .i64 (0))), (.sc (.int .i64 (0)))]⟩,
       ⟨none, none, .store 9 (.t 4) (.t 10)⟩])
     (.seq (.ops [⟨(some 11), none, .move (.t 0)⟩,
       ⟨(some 12), none, .load (some 9) (.t 4)⟩,
       ⟨(some 13), none, .call (.t 11) [(.t 12)]⟩,
       ⟨(some 14), none, .un .not (.t 13)⟩])
     (.cond (.t 14)
      (.ret)
      (.skip)))))
    (.ops [⟨(some 15), none, .bin .add (.t 7) (.c (.sc (.int .i64 (1))))⟩,
      ⟨(some 7), none, .move (.t 15)⟩])))))),
  []⟩
theorem ok215 : EntryOk Tryz.prog 215 af215 := ⟨Tryz.f215, _, Tryz.func215, by decide, rfl, by kernel_rfl, by kernel_rfl, rfl⟩
/-- hemiola/voice.lengths -/
noncomputable def af219 : AF := ⟨45, .seq (.ops [⟨(some 2), none, .box (.t 0)⟩,
    ⟨(some 4), none, .move (.c (.sl true .full 0 []))⟩,
    ⟨(some 5), none, .move (.c (.sc (.int .i64 (0))))⟩])
  (.seq (.block 0 (.seq (.ops [⟨(some 8), none, .move (.t 1)⟩,
     ⟨(some 9), none, .bin .lss (.t 8) (.c (.sc (.int .i64 (1))))⟩,
     ⟨(some 10), none, .move (.t 9)⟩,
     ⟨(some 11), (some (10, false)), .move (.t 1)⟩,
     ⟨(some 12), (some (10, false)), .bin .gtr (.t 11) (.c (.sc (.int .i64 (15482880))))⟩,
     ⟨(some 13), none, .pick (.t 10) (.c (.sc (.bool true))) (.t 12)⟩,
     ⟨(some 7), none, .move (.t 13)⟩])
   (.cond (.t 7)
    (.seq (.ops [⟨(some 4), none, .move (.c (.sl true .full 0 []))⟩,
      ⟨(some 5), none, .move (.c (.sc (.int .i64 (2))))⟩])
    (.ret))
    (.seq (.ops [⟨(some 15), none, .faddr 0 (.t 2)⟩,
      ⟨(some 16), none, .load none (.t 15)⟩,
      ⟨(some 17), none, .len (.t 16)⟩,
      ⟨(some 18), none, .bin .gtr (.t 17) (.c (.sc (.int .i64 (128))))⟩,
      ⟨(some 14), none, .move (.t 18)⟩])
    (.cond (.t 14)
     (.seq (.ops [⟨(some 4), none, .move (.c (.sl true .full 0 []))⟩,
       ⟨(some 5), none, .move (.c (.sc (.int .i64 (9))))⟩])
     (.ret))
     (.skip))))))
  (.seq (.seq (.ops [⟨(some 19), none, .load (some 2) (.t 2)⟩,
    ⟨(some 20), none, .call (.c (.fn (.func 304) [] [])) [(.t 19)]⟩,
    ⟨(some 21), none, .move (.t 20)⟩,
    ⟨(some 22), (some (21, true)), .faddr 0 (.t 2)⟩,
    ⟨(some 23), (some (21, true)), .load none (.t 22)⟩,
    ⟨(some 24), (some (21, true)), .len (.t 23)⟩,
    ⟨(some 25), (some (21, true)), .bin .eql (.t 24) (.c (.sc (.int .i64 (1))))⟩,
    ⟨(some 26), none, .pick (.t 21) (.t 25) (.c (.sc (.bool false)))⟩])
  (.cond (.t 26)
   (.seq (.seq (.ops [⟨(some 27), none, .faddr 0 (.t 2)⟩,
     ⟨(some 28), none, .load none (.t 27)⟩,
     ⟨(some 29), none, .iaddrS 13 (.t 28) (.c (.sc (.int .i64 (0))))⟩,
     ⟨(some 30), none, .load (some 13) (.t 29)⟩,
     ⟨(some 31), none, .call (.c (.fn (.func 181) [] [])) [(.t 30)]⟩,
     ⟨(some 6), none, .move (.t 31)⟩])
   (.seq (.ops [⟨(some 32), none, .move (.t 6)⟩,
     ⟨(some 33), none, .bin .neq (.t 32) (.c (.sc (.int .i64 (0))))⟩])
   (.cond (.t 33)
    (.seq (.ops [⟨(some 34), none, .move (.t 6)⟩,
      ⟨(some 4), none, .move (.c (.sl true .full 0 []))⟩,
      ⟨(some 5), none, .move (.t 34)⟩])
    (.ret))
    (.skip))))
   (.seq (.seq (.ops [⟨(some 35), none, .faddr 1 (.t 2)⟩,
     ⟨(some 36), none, .load none (.t 35)⟩,
     ⟨(some 37), none, .len (.t 36)⟩,
     ⟨(some 38), none, .bin .gtr (.t 37) (.c (.sc (.int .i64 (0))))⟩])
   (.cond (.t 38)
    (.seq (.ops [⟨(some 4), none, .move (.c (.sl true .full 0 []))⟩,
      ⟨(some 5), none, .move (.c (.sc (.int .i64 (21))))⟩])
    (.ret))
    (.skip)))
   (.seq (.ops [⟨(some 39), none, .move (.t 1)⟩,
     ⟨(some 40), none, .buildSl 1 [(.t 39)]⟩,
     ⟨(some 4), none, .move (.t 40)⟩,
     ⟨(some 5), none, .move (.c (.sc (.int .i64 (0))))⟩])
   (.ret))))
   (.skip)))
  (.seq (.ops [⟨(some 41), none, .load (some 2) (.t 2)⟩,
    ⟨(some 42), none, .call (.c (.fn (.func 305) [] [])) [(.t 41)]⟩,
    ⟨(some 43), none, .extract 0 (.t 42)⟩,
    ⟨(some 44), none, .extract 1 (.t 42)⟩,
    ⟨(some 4), none, .move (.t 43)⟩,
    ⟨(some 5), none, .move (.t 44)⟩])
  (.ret)))),
  [.t 4, .t 5]⟩
theorem ok219 : EntryOk Tryz.prog 219 af219 := ⟨Tryz.f219, _, Tryz.func219, by decide, rfl, by kernel_rfl, by kernel_rfl, rfl⟩
/-- hemiola/event.number -/
noncomputable def af223 : AF := ⟨22, .seq (.ops [⟨(some 1), none, .box (.t 0)⟩,
    ⟨(some 2), none, .move (.c (.sc (.int .i64 (0))))⟩,
    ⟨(some 3), none, .move (.c (.sc (.int .i64 (0))))⟩])
  (.seq (.ops [⟨(some 7), none, .load (some 3) (.t 1)⟩,
    ⟨(some 8), none, .call (.c (.fn (.func 134) [] [])) [(.t 7)]⟩,
    ⟨(some 6), none, .move (.t 8)⟩,
    ⟨(some 9), none, .extract 0 (.t 6)⟩,
    ⟨(some 10), none, .extract 1 (.t 6)⟩,
    ⟨(some 4), none, .move (.t 9)⟩,
    ⟨(some 5), none, .move (.t 10)⟩])
  (.seq (.seq (.ops [⟨(some 11), none, .move (.t 5)⟩,
    ⟨(some 12), none, .bin .neq (.t 11) (.c (.sc (.int .i64 (0))))⟩,
    ⟨(some 13), none, .move (.t 12)⟩,
    ⟨(some 14), (some (13, false)), .move (.t 4)⟩,
    ⟨(some 15), (some (13, false)), .bin .lss (.t 14) (.c (.sc (.int .i64 (0))))⟩,
    ⟨(some 16), none, .pick (.t 13) (.c (.sc (.bool true))) (.t 15)⟩,
    ⟨(some 17), none, .move (.t 16)⟩,
    ⟨(some 18), (some (17, false)), .move (.t 4)⟩,
    ⟨(some 19), (some (17, false)), .bin .gtr (.t 18) (.c (.sc (.int .i64 (127))))⟩,
    ⟨(some 20), none, .pick (.t 17) (.c (.sc (.bool true))) (.t 19)⟩])
  (.cond (.t 20)
   (.seq (.ops [⟨(some 2), none, .move (.c (.sc (.int .i64 (0))))⟩,
     ⟨(some 3), none, .move (.c (.sc (.int .i64 (18))))⟩])
   (.ret))
   (.skip)))
  (.seq (.ops [⟨(some 21), none, .move (.t 4)⟩,
    ⟨(some 2), none, .move (.t 21)⟩,
    ⟨(some 3), none, .move (.c (.sc (.int .i64 (0))))⟩])
  (.ret)))),
  [.t 2, .t 3]⟩
theorem ok223 : EntryOk Tryz.prog 223 af223 := ⟨Tryz.f223, _, Tryz.func223, by decide, rfl, by kernel_rfl, by kernel_rfl, rfl⟩
/-- hemiola/key.alter -/
noncomputable def af227 : AF := ⟨19, .seq (.ops [⟨(some 4), none, .move (.c (.sc (.int .i64 (0))))⟩])
  (.seq (.seq (.ops [⟨(some 6), none, .move (.t 1)⟩,
    ⟨(some 7), none, .call (.c (.fn (.func 309) [] [])) [(.t 6)]⟩,
    ⟨(some 8), none, .bin .add (.t 7) (.c (.sc (.int .i64 (1))))⟩,
    ⟨(some 5), none, .move (.t 8)⟩])
  (.block 0 (.seq (.ops [⟨(some 10), none, .move (.t 5)⟩,
     ⟨(some 11), none, .move (.t 0)⟩,
     ⟨(some 12), none, .bin .lss (.t 10) (.t 11)⟩,
     ⟨(some 9), none, .move (.t 12)⟩])
   (.cond (.t 9)
    (.seq (.ops [⟨(some 4), none, .move (.c (.sc (.int .i64 (1))))⟩])
    (.ret))
    (.seq (.ops [⟨(some 14), none, .move (.t 5)⟩,
      ⟨(some 15), none, .bin .sub (.c (.sc (.int .i64 (6)))) (.t 14)⟩,
      ⟨(some 16), none, .move (.t 0)⟩,
      ⟨(some 17), none, .un .neg (.t 16)⟩,
      ⟨(some 18), none, .bin .lss (.t 15) (.t 17)⟩,
      ⟨(some 13), none, .move (.t 18)⟩])
    (.cond (.t 13)
     (.seq (.ops [⟨(some 4), none, .move (.c (.sc (.int .i64 (-1))))⟩])
     (.ret))
     (.skip)))))))
  (.seq (.ops [⟨(some 4), none, .move (.c (.sc (.int .i64 (0))))⟩])
  (.ret))),
  [.t 4]⟩
theorem ok227 : EntryOk Tryz.prog 227 af227 := ⟨Tryz.f227, _, Tryz.func227, by decide, rfl, by kernel_rfl, by kernel_rfl, rfl⟩
/-- math/bits.Len64 -/
noncomputable def af240 : AF := ⟨25, .seq (.ops [⟨(some 2), none, .move (.c (.sc (.int .i64 (0))))⟩])
  (.seq (.seq (.ops [⟨(some 3), none, .move (.t 0)⟩,
    ⟨(some 4), none, .bin .geq (.t 3) (.c (.sc (.int .u64 (4294967296))))⟩])
  (.cond (.t 4)
   (.seq (.ops [⟨(some 5), none, .move (.t 0)⟩,
     ⟨(some 6), none, .bin .shr (.t 5) (.c (.sc (.int .u64 (32))))⟩,
     ⟨(some 0), none, .move (.t 6)⟩])
   (.ops [⟨(some 2), none, .move (.c (.sc (.int .i64 (32))))⟩]))
   (.skip)))
  (.seq (.seq (.ops [⟨(some 7), none, .move (.t 0)⟩,
    ⟨(some 8), none, .bin .geq (.t 7) (.c (.sc (.int .u64 (65536))))⟩])
  (.cond (.t 8)
   (.seq (.ops [⟨(some 9), none, .move (.t 0)⟩,
     ⟨(some 10), none, .bin .shr (.t 9) (.c (.sc (.int .u64 (16))))⟩,
     ⟨(some 0), none, .move (.t 10)⟩])
   (.ops [⟨(some 11), none, .move (.t 2)⟩,
     ⟨(some 12), none, .bin .add (.t 11) (.c (.sc (.int .i64 (16))))⟩,
     ⟨(some 2), none, .move (.t 12)⟩]))
   (.skip)))
  (.seq (.seq (.ops [⟨(some 13), none, .move (.t 0)⟩,
    ⟨(some 14), none, .bin .geq (.t 13) (.c (.sc (.int .u64 (256))))⟩])
  (.cond (.t 14)
   (.seq (.ops [⟨(some 15), none, .move (.t 0)⟩,
     ⟨(some 16), none, .bin .shr (.t 15) (.c (.sc (.int .u64 (8))))⟩,
     ⟨(some 0), none, .move (.t 16)⟩])
   (.ops [⟨(some 17), none, .move (.t 2)⟩,
     ⟨(some 18), none, .bin .add (.t 17) (.c (.sc (.int .i64 (8))))⟩,
     ⟨(some 2), none, .move (.t 18)⟩]))
   (.skip)))
  (.seq (.ops [⟨(some 19), none, .move (.t 2)⟩,
    ⟨(some 20), none, .move (.t 0)⟩,
    ⟨(some 21), none, .convI .u8 (.t 20)⟩,
    ⟨(some 22), none, .idxStr (.c (.sc (.string ⟨#[0, 1, 2, 2, 3, 3, 3, 3, 4, 4, 4, 4, 4, 4, 4, 4, 5, 5, 5, 5, 5, 5, 5, 5, 5, 5, 5, 5, 5, 5, 5, 5, 6, 6, 6, 6, 6, 6, 6, 6, 6, 6, 6, 6, 6, 6, 6, 6, 6, 6, 6, 6, 6, 6, 6, 6, 6, 6, 6, 6, 6, 6, 6, 6, 7, 7, 7, 7, 7, 7, 7, 7, 7, 7, 7, 7, 7, 7, 7, 7, 7, 7, 7, 7, 7, 7, 7, 7, 7, 7, 7, 7, 7, 7, 7, 7, 7, 7, 7, 7, 7, 7, 7, 7, 7, 7, 7, 7, 7, 7, 7, 7, 7, 7, 7, 7, 7, 7, 7, 7, 7, 7, 7, 7, 7, 7, 7, 7, 8, 8, 8, 8, 8, 8, 8, 8, 8, 8, 8, 8, 8, 8, 8, 8, 8, 8, 8, 8, 8, 8, 8, 8, 8, 8, 8, 8, 8, 8, 8, 8, 8, 8, 8, 8, 8, 8, 8, 8, 8, 8, 8, 8, 8, 8, 8, 8, 8, 8, 8, 8, 8, 8, 8, 8, 8, 8, 8, 8, 8, 8, 8, 8, 8, 8, 8, 8, 8, 8, 8, 8, 8, 8, 8, 8, 8, 8, 8, 8, 8, 8, 8, 8, 8, 8, 8, 8, 8, 8, 8, 8, 8, 8, 8, 8, 8, 8, 8, 8, 8, 8, 8, 8, 8, 8, 8, 8, 8, 8, 8, 8, 8, 8, 8, 8, 8, 8, 8, 8, 8, 8, 8, 8, 8, 8, 8, 8]⟩))) (.t 21)⟩,
    ⟨(some 23), none, .convI .i64 (.t 22)⟩,
    ⟨(some 24), none, .bin .add (.t 19) (.t 23)⟩,
    ⟨(some 2), none, .move (.t 24)⟩])
  (.ret))))),
  [.t 2]⟩
theorem ok240 : EntryOk Tryz.prog 240 af240 := ⟨Tryz.f240, _, Tryz.func240, by decide, rfl, by kernel_rfl, by kernel_rfl, rfl⟩
/-- hemiola/clef.of -/
noncomputable def af255 : AF := ⟨15, .seq (.ops [⟨(some 2), none, .alloc [(.sc (.string ⟨#[]⟩)), (.sc (.int .u8 (0))), (.sc (.int .i64 (0))), (.sc (.int .i64 (0))), (.sc (.int .i64 (0))), (.sc (.int .i64 (0))), (.sc (.int .i64 (0)))]⟩,
    ⟨(some 3), none, .move (.c (.sc (.int .i64 (0))))⟩])
  (.seq (.seq (.ops [⟨(some 4), none, .move (.t 0)⟩,
    ⟨(some 5), none, .bin .lss (.t 4) (.c (.sc (.int .i64 (1))))⟩,
    ⟨(some 6), none, .move (.t 5)⟩,
    ⟨(some 7), (some (6, false)), .move (.t 0)⟩,
    ⟨(some 8), (some (6, false)), .bin .gtr (.t 7) (.c (.sc (.int .i64 (9))))⟩,
    ⟨(some 9), none, .pick (.t 6) (.c (.sc (.bool true))) (.t 8)⟩])
  (.cond (.t 9)
   (.seq (.ops [⟨(some 10), none, .build [(.sc (.string ⟨#[]⟩)), (.sc (.int .u8 (0))), (.sc (.int .i64 (0))), (.sc (.int .i64 (0))), (.sc (.int .i64 (0))), (.sc (.int .i64 (0))), (.sc (.int .i64 (0)))] []⟩,
     ⟨none, none, .store 7 (.t 2) (.t 10)⟩,
     ⟨(some 3), none, .move (.c (.sc (.int .i64 (11))))⟩])
   (.ret))
   (.skip)))
  (.seq (.ops [⟨(some 11), none, .call (.c (.fn (.func 323) [] [])) []⟩,
    ⟨(some 12), none, .move (.t 0)⟩,
    ⟨(some 13), none, .bin .sub (.t 12) (.c (.sc (.int .i64 (1))))⟩,
    ⟨(some 14), none, .idxA 7 9 (some 7) (.t 11) (.t 13)⟩,
    ⟨none, none, .store 7 (.t 2) (.t 14)⟩,
    ⟨(some 3), none, .move (.c (.sc (.int .i64 (0))))⟩])
  (.ret))),
  [.c 2 (some 7), .t 3]⟩
theorem ok255 : EntryOk Tryz.prog 255 af255 := ⟨Tryz.f255, _, Tryz.func255, by decide, rfl, by kernel_rfl, by kernel_rfl, rfl⟩
/-- (*hemiola/check.checker).filled$1$2 -/
noncomputable def af259 : AF := ⟨10, .seq (.ops [⟨(some 4), none, .box (.t 0)⟩,
    ⟨(some 5), none, .move (.c (.sc (.bool false)))⟩])
  (.seq (.ops [⟨(some 6), none, .faddr 1 (.t 4)⟩,
    ⟨(some 7), none, .load none (.t 6)⟩,
    ⟨(some 8), none, .mkFn (.func 261) [] [(.t 1), (.t 2), (.t 3)]⟩,
    ⟨(some 9), none, .call (.c (.fn (.func 260) [] [])) [(.t 7), (.t 8)]⟩,
    ⟨(some 5), none, .move (.t 9)⟩])
  (.ret)),
  [.t 5]⟩
theorem ok259 : EntryOk Tryz.prog 259 af259 := ⟨Tryz.f259, _, Tryz.func259, by decide, rfl, by kernel_rfl, by kernel_rfl, rfl⟩
/-- hemiola/voice.Check -/
noncomputable def af263 : AF := ⟨14, .seq (.ops [⟨(some 2), none, .box (.t 0)⟩,
    ⟨(some 4), none, .move (.c (.sc (.int .i64 (0))))⟩])
  (.seq (.ops [⟨(some 8), none, .load (some 2) (.t 2)⟩,
    ⟨(some 9), none, .move (.t 1)⟩,
    ⟨(some 10), none, .call (.c (.fn (.func 125) [] [])) [(.t 8), (.t 9)]⟩,
    ⟨(some 7), none, .move (.t 10)⟩,
    ⟨(some 11), none, .extract 0 (.t 7)⟩,
    ⟨(some 12), none, .extract 1 (.t 7)⟩,
    ⟨(some 5), none, .move (.t 11)⟩,
    ⟨(some 6), none, .move (.t 12)⟩])
  (.seq (.ops [⟨(some 13), none, .move (.t 6)⟩,
    ⟨(some 4), none, .move (.t 13)⟩])
  (.ret))),
  [.t 4]⟩
theorem ok263 : EntryOk Tryz.prog 263 af263 := ⟨Tryz.f263, _, Tryz.func263, by decide, rfl, by kernel_rfl, by kernel_rfl, rfl⟩
/-- hemiola/event.Same -/
noncomputable def af267 : AF := ⟨73, .seq (.ops [⟨(some 2), none, .box (.t 0)⟩,
    ⟨(some 3), none, .box (.t 1)⟩,
    ⟨(some 4), none, .move (.c (.sc (.bool false)))⟩])
  (.seq (.ops [⟨(some 5), none, .faddr 2 (.t 2)⟩,
    ⟨(some 6), none, .load none (.t 5)⟩,
    ⟨(some 7), none, .faddr 2 (.t 3)⟩,
    ⟨(some 8), none, .load none (.t 7)⟩,
    ⟨(some 9), none, .bin .eql (.t 6) (.t 8)⟩,
    ⟨(some 10), none, .move (.t 9)⟩,
    ⟨(some 11), (some (10, true)), .faddr 3 (.t 2)⟩,
    ⟨(some 12), (some (10, true)), .load (some 2) (.t 11)⟩,
    ⟨(some 13), (some (10, true)), .faddr 3 (.t 3)⟩,
    ⟨(some 14), (some (10, true)), .load (some 2) (.t 13)⟩,
    ⟨(some 15), (some (10, true)), .eqC [.i, .i] false (.t 12) (.t 14)⟩,
    ⟨(some 16), none, .pick (.t 10) (.t 15) (.c (.sc (.bool false)))⟩,
    ⟨(some 17), none, .move (.t 16)⟩,
    ⟨(some 18), (some (17, true)), .faddr 7 (.t 2)⟩,
    ⟨(some 19), (some (17, true)), .load none (.t 18)⟩,
    ⟨(some 20), (some (17, true)), .faddr 7 (.t 3)⟩,
    ⟨(some 21), (some (17, true)), .load none (.t 20)⟩,
    ⟨(some 22), (some (17, true)), .bin .eql (.t 19) (.t 21)⟩,
    ⟨(some 23), none, .pick (.t 17) (.t 22) (.c (.sc (.bool false)))⟩,
    ⟨(some 24), none, .move (.t 23)⟩,
    ⟨(some 25), (some (24, true)), .faddr 8 (.t 2)⟩,
    ⟨(some 26), (some (24, true)), .load none (.t 25)⟩,
    ⟨(some 27), (some (24, true)), .faddr 8 (.t 3)⟩,
    ⟨(some 28), (some (24, true)), .load none (.t 27)⟩,
    ⟨(some 29), (some (24, true)), .bin .eql (.t 26) (.t 28)⟩,
    ⟨(some 30), none, .pick (.t 24) (.t 29) (.c (.sc (.bool false)))⟩,
    ⟨(some 31), none, .move (.t 30)⟩,
    ⟨(some 32), (some (31, true)), .faddr 9 (.t 2)⟩,
    ⟨(some 33), (some (31, true)), .load none (.t 32)⟩,
    ⟨(some 34), (some (31, true)), .faddr 9 (.t 3)⟩,
    ⟨(some 35), (some (31, true)), .load none (.t 34)⟩,
    ⟨(some 36), (some (31, true)), .bin .eql (.t 33) (.t 35)⟩,
    ⟨(some 37), none, .pick (.t 31) (.t 36) (.c (.sc (.bool false)))⟩,
    ⟨(some 38), none, .move (.t 37)⟩,
    ⟨(some 39), (some (38, true)), .faddr 11 (.t 2)⟩,
    ⟨(some 40), (some (38, true)), .load none (.t 39)⟩,
    ⟨(some 41), (some (38, true)), .faddr 11 (.t 3)⟩,
    ⟨(some 42), (some (38, true)), .load none (.t 41)⟩,
    ⟨(some 43), (some (38, true)), .bin .eql (.t 40) (.t 42)⟩,
    ⟨(some 44), none, .pick (.t 38) (.t 43) (.c (.sc (.bool false)))⟩,
    ⟨(some 45), none, .move (.t 44)⟩,
    ⟨(some 46), (some (45, true)), .faddr 12 (.t 2)⟩,
    ⟨(some 47), (some (45, true)), .load none (.t 46)⟩,
    ⟨(some 48), (some (45, true)), .faddr 12 (.t 3)⟩,
    ⟨(some 49), (some (45, true)), .load none (.t 48)⟩,
    ⟨(some 50), (some (45, true)), .bin .eql (.t 47) (.t 49)⟩,
    ⟨(some 51), none, .pick (.t 45) (.t 50) (.c (.sc (.bool false)))⟩,
    ⟨(some 52), none, .move (.t 51)⟩,
    ⟨(some 53), (some (52, true)), .faddr 5 (.t 2)⟩,
    ⟨(some 54), (some (52, true)), .load none (.t 53)⟩,
    ⟨(some 55), (some (52, true)), .faddr 5 (.t 3)⟩,
    ⟨(some 56), (some (52, true)), .load none (.t 55)⟩,
    ⟨(some 57), (some (52, true)), .call (.c (.fn (.func 327) [] [])) [(.t 54), (.t 56)]⟩,
    ⟨(some 58), none, .pick (.t 52) (.t 57) (.c (.sc (.bool false)))⟩,
    ⟨(some 59), none, .move (.t 58)⟩,
    ⟨(some 60), (some (59, true)), .faddr 6 (.t 2)⟩,
    ⟨(some 61), (some (59, true)), .load none (.t 60)⟩,
    ⟨(some 62), (some (59, true)), .faddr 6 (.t 3)⟩,
    ⟨(some 63), (some (59, true)), .load none (.t 62)⟩,
    ⟨(some 64), (some (59, true)), .call (.c (.fn (.func 328) [] [])) [(.t 61), (.t 63)]⟩,
    ⟨(some 65), none, .pick (.t 59) (.t 64) (.c (.sc (.bool false)))⟩,
    ⟨(some 66), none, .move (.t 65)⟩,
    ⟨(some 67), (some (66, true)), .faddr 10 (.t 2)⟩,
    ⟨(some 68), (some (66, true)), .load none (.t 67)⟩,
    ⟨(some 69), (some (66, true)), .faddr 10 (.t 3)⟩,
    ⟨(some 70), (some (66, true)), .load none (.t 69)⟩,
    ⟨(some 71), (some (66, true)), .call (.c (.fn (.func 329) [] [])) [(.t 68), (.t 70)]⟩,
    ⟨(some 72), none, .pick (.t 66) (.t 71) (.c (.sc (.bool false)))⟩,
    ⟨(some 4), none, .move (.t 72)⟩])
  (.ret)),
  [.t 4]⟩
theorem ok267 : EntryOk Tryz.prog 267 af267 := ⟨Tryz.f267, _, Tryz.func267, by decide, rfl, by kernel_rfl, by kernel_rfl, rfl⟩
/-- hemiola/event.CheckLyrics -/
noncomputable def af271 : AF := ⟨34, .seq (.ops [⟨(some 2), none, .move (.c (.sc (.int .i64 (0))))⟩])
  (.seq (.seq (.ops [⟨(some 7), none, .move (.t 0)⟩,
    ⟨(some 8), none, .len (.t 7)⟩,
    ⟨(some 9), none, .bin .gtr (.t 8) (.c (.sc (.int .i64 (4))))⟩])
  (.cond (.t 9)
   (.seq (.ops [⟨(some 2), none, .move (.c (.sc (.int .i64 (9))))⟩])
   (.ret))
   (.skip)))
  (.seq (.seq (.ops [⟨(some 10), none, .move (.t 0)⟩,
    ⟨(some 11), none, .len (.t 10)⟩,
    ⟨(some 12), none, .move (.c (.sc (.int .i64 (0))))⟩])
  (.block 0 (.loop (.seq (.ops [⟨(some 13), none, .bin .lss (.t 12) (.t 11)⟩])
    (.seq (.cond (.t 13)
     (.skip)
     (.exit 0))
    (.seq (.block 1 (.seq (.ops [⟨(some 14), none, .iaddrS 2 (.t 10) (.t 12)⟩,
       ⟨(some 15), none, .load (some 2) (.t 14)⟩,
       ⟨(some 4), none, .alloc [(.sc (.string ⟨#[]⟩)), (.sc (.int .i64 (0)))]⟩,
       ⟨none, none, .store 2 (.t 4) (.t 15)⟩])
     (.seq (.ops [⟨(some 16), none, .load (some 2) (.t 4)⟩,
       ⟨(some 17), none, .call (.c (.fn (.func 332) [] [])) [(.t 16)]⟩,
       ⟨(some 5), none, .move (.t 17)⟩])
     (.seq (.ops [⟨(some 18), none, .move (.t 5)⟩,
       ⟨(some 19), none, .bin .neq (.t 18) (.c (.sc (.int .i64 (0))))⟩])
     (.cond (.t 19)
      (.seq (.ops [⟨(some 20), none, .move (.t 5)⟩,
        ⟨(some 2), none, .move (.t 20)⟩])
      (.ret))
      (.skip))))))
    (.ops [⟨(some 21), none, .bin .add (.t 12) (.c (.sc (.int .i64 (1))))⟩,
      ⟨(some 12), none, .move (.t 21)⟩])))))))
  (.seq (.seq (.ops [⟨(some 22), none, .move (.t 0)⟩,
    ⟨(some 23), none, .len (.t 22)⟩,
    ⟨(some 6), none, .move (.t 23)⟩])
  (.seq (.ops [⟨(some 24), none, .move (.t 6)⟩,
    ⟨(some 25), none, .bin .gtr (.t 24) (.c (.sc (.int .i64 (0))))⟩,
    ⟨(some 26), none, .move (.t 25)⟩,
    ⟨(some 27), (some (26, true)), .move (.t 0)⟩,
    ⟨(some 28), (some (26, true)), .move (.t 6)⟩,
    ⟨(some 29), (some (26, true)), .bin .sub (.t 28) (.c (.sc (.int .i64 (1))))⟩,
    ⟨(some 30), (some (26, true)), .iaddrS 2 (.t 27) (.t 29)⟩,
    ⟨(some 31), (some (26, true)), .load (some 2) (.t 30)⟩,
    ⟨(some 32), (some (26, true)), .call (.c (.fn (.func 333) [] [])) [(.t 31)]⟩,
    ⟨(some 33), none, .pick (.t 26) (.t 32) (.c (.sc (.bool false)))⟩])
  (.cond (.t 33)
   (.seq (.ops [⟨(some 2), none, .move (.c (.sc (.int .i64 (3))))⟩])
   (.ret))
   (.skip))))
  (.seq (.ops [⟨(some 2), none, .move (.c (.sc (.int .i64 (0))))⟩])
  (.ret))))),
  [.t 2]⟩
theorem ok271 : EntryOk Tryz.prog 271 af271 := ⟨Tryz.f271, _, Tryz.func271, by decide, rfl, by kernel_rfl, by kernel_rfl, rfl⟩
/-- hemiola/score.check -/
noncomputable def af275 : AF := ⟨25, .seq (.ops [⟨(some 2), none, .box (.t 0)⟩,
    ⟨(some 3), none, .box (.t 1)⟩,
    ⟨(some 4), none, .move (.c (.sc (.int .i64 (0))))⟩])
  (.seq (.seq (.ops [⟨(some 5), none, .faddr 0 (.t 3)⟩,
    ⟨(some 6), none, .load none (.t 5)⟩,
    ⟨(some 7), none, .bin .neq (.t 6) (.c (.sc (.int .i64 (4))))⟩])
  (.cond (.t 7)
   (.seq (.ops [⟨(some 4), none, .move (.c (.sc (.int .i64 (11))))⟩])
   (.ret))
   (.skip)))
  (.seq (.seq (.draw [⟨true, [3], [], ⟨(some 8), none, .faddr 5 (.t 3)⟩⟩,
    ⟨true, [8], [], ⟨(some 9), none, .load none (.t 8)⟩⟩,
    ⟨true, [9], [], ⟨(some 10), none, .bin .lss (.t 9) (.c (.sc (.int .i64 (0))))⟩⟩,
    ⟨true, [10], [], ⟨(some 11), none, .move (.t 10)⟩⟩,
    ⟨false, [3, 11], [], ⟨(some 12), (some (11, false)), .faddr 5 (.t 3)⟩⟩,
    ⟨false, [12, 11], [13], ⟨(some 13), (some (11, false)), .load none (.t 12)⟩⟩,
    ⟨false, [2, 11], [], ⟨(some 14), (some (11, false)), .load (some 6) (.t 2)⟩⟩,
    ⟨false, [3, 11], [], ⟨(some 15), (some (11, false)), .faddr 3 (.t 3)⟩⟩,
    ⟨false, [15, 11], [], ⟨(some 16), (some (11, false)), .load none (.t 15)⟩⟩,
    ⟨false, [3, 11], [], ⟨(some 17), (some (11, false)), .faddr 2 (.t 3)⟩⟩,
    ⟨false, [17, 11], [], ⟨(some 18), (some (11, false)), .load none (.t 17)⟩⟩,
    ⟨false, [3, 11], [], ⟨(some 19), (some (11, false)), .faddr 4 (.t 3)⟩⟩,
    ⟨false, [19, 11], [], ⟨(some 20), (some (11, false)), .load none (.t 19)⟩⟩,
    ⟨true, [14, 16, 18, 20, 11], [], ⟨(some 21), (some (11, false)), .call (.c (.fn (.func 276) [] [])) [(.t 14), (.t 16), (.t 18), (.t 20)]⟩⟩,
    ⟨false, [21, 11], [], ⟨(some 22), (some (11, false)), .len (.t 21)⟩⟩]
    [⟨(some 23), (some (11, false)), .bin .geq (.t 13) (.t 22)⟩,
    ⟨(some 24), none, .pick (.t 11) (.c (.sc (.bool true))) (.t 23)⟩])
  (.cond (.t 24)
   (.seq (.ops [⟨(some 4), none, .move (.c (.sc (.int .i64 (2))))⟩])
   (.ret))
   (.skip)))
  (.seq (.ops [⟨(some 4), none, .move (.c (.sc (.int .i64 (0))))⟩])
  (.ret)))),
  [.t 4]⟩
theorem ok275 : EntryOk Tryz.prog 275 af275 := ⟨Tryz.f275, _, Tryz.func275, by decide, rfl, by kernel_rfl, by kernel_rfl, rfl⟩
/-- hemiola/measure.present -/
noncomputable def af296 : AF := ⟨7, .seq (.ops [⟨(some 1), none, .box (.t 0)⟩,
    ⟨(some 2), none, .move (.c (.sc (.bool false)))⟩])
  (.seq (.ops [⟨(some 3), none, .faddr 0 (.t 1)⟩,
    ⟨(some 4), none, .load none (.t 3)⟩,
    ⟨(some 5), none, .len (.t 4)⟩,
    ⟨(some 6), none, .bin .gtr (.t 5) (.c (.sc (.int .i64 (0))))⟩,
    ⟨(some 2), none, .move (.t 6)⟩])
  (.ret)),
  [.t 2]⟩
theorem ok296 : EntryOk Tryz.prog 296 af296 := ⟨Tryz.f296, _, Tryz.func296, by decide, rfl, by kernel_rfl, by kernel_rfl, rfl⟩
/-- math/bits.Mul64 -/
noncomputable def af300 : AF := ⟨51, .seq (.ops [⟨(some 4), none, .move (.c (.sc (.int .u64 (0))))⟩,
    ⟨(some 5), none, .move (.c (.sc (.int .u64 (0))))⟩])
  (.seq (.ops [⟨(some 14), none, .move (.t 0)⟩,
    ⟨(some 15), none, .bin .and (.t 14) (.c (.sc (.int .u64 (4294967295))))⟩,
    ⟨(some 6), none, .move (.t 15)⟩])
  (.seq (.ops [⟨(some 16), none, .move (.t 0)⟩,
    ⟨(some 17), none, .bin .shr (.t 16) (.c (.sc (.int .u64 (32))))⟩,
    ⟨(some 7), none, .move (.t 17)⟩])
  (.seq (.ops [⟨(some 18), none, .move (.t 1)⟩,
    ⟨(some 19), none, .bin .and (.t 18) (.c (.sc (.int .u64 (4294967295))))⟩,
    ⟨(some 8), none, .move (.t 19)⟩])
  (.seq (.ops [⟨(some 20), none, .move (.t 1)⟩,
    ⟨(some 21), none, .bin .shr (.t 20) (.c (.sc (.int .u64 (32))))⟩,
    ⟨(some 9), none, .move (.t 21)⟩])
  (.seq (.ops [⟨(some 22), none, .move (.t 6)⟩,
    ⟨(some 23), none, .move (.t 8)⟩,
    ⟨(some 24), none, .bin .mul (.t 22) (.t 23)⟩,
    ⟨(some 10), none, .move (.t 24)⟩])
  (.seq (.ops [⟨(some 25), none, .move (.t 7)⟩,
    ⟨(some 26), none, .move (.t 8)⟩,
    ⟨(some 27), none, .bin .mul (.t 25) (.t 26)⟩,
    ⟨(some 28), none, .move (.t 10)⟩,
    ⟨(some 29), none, .bin .shr (.t 28) (.c (.sc (.int .u64 (32))))⟩,
    ⟨(some 30), none, .bin .add (.t 27) (.t 29)⟩,
    ⟨(some 11), none, .move (.t 30)⟩])
  (.seq (.ops [⟨(some 31), none, .move (.t 11)⟩,
    ⟨(some 32), none, .bin .and (.t 31) (.c (.sc (.int .u64 (4294967295))))⟩,
    ⟨(some 12), none, .move (.t 32)⟩])
  (.seq (.ops [⟨(some 33), none, .move (.t 11)⟩,
    ⟨(some 34), none, .bin .shr (.t 33) (.c (.sc (.int .u64 (32))))⟩,
    ⟨(some 13), none, .move (.t 34)⟩])
  (.seq (.ops [⟨(some 35), none, .move (.t 12)⟩,
    ⟨(some 36), none, .move (.t 6)⟩,
    ⟨(some 37), none, .move (.t 9)⟩,
    ⟨(some 38), none, .bin .mul (.t 36) (.t 37)⟩,
    ⟨(some 39), none, .bin .add (.t 35) (.t 38)⟩,
    ⟨(some 12), none, .move (.t 39)⟩])
  (.seq (.ops [⟨(some 40), none, .move (.t 7)⟩,
    ⟨(some 41), none, .move (.t 9)⟩,
    ⟨(some 42), none, .bin .mul (.t 40) (.t 41)⟩,
    ⟨(some 43), none, .move (.t 13)⟩,
    ⟨(some 44), none, .bin .add (.t 42) (.t 43)⟩,
    ⟨(some 45), none, .move (.t 12)⟩,
    ⟨(some 46), none, .bin .shr (.t 45) (.c (.sc (.int .u64 (32))))⟩,
    ⟨(some 47), none, .bin .add (.t 44) (.t 46)⟩,
    ⟨(some 4), none, .move (.t 47)⟩])
  (.seq (.ops [⟨(some 48), none, .move (.t 0)⟩,
    ⟨(some 49), none, .move (.t 1)⟩,
    ⟨(some 50), none, .bin .mul (.t 48) (.t 49)⟩,
    ⟨(some 5), none, .move (.t 50)⟩])
  (.ret)))))))))))),
  [.t 4, .t 5]⟩
theorem ok300 : EntryOk Tryz.prog 300 af300 := ⟨Tryz.f300, _, Tryz.func300, by decide, rfl, by kernel_rfl, by kernel_rfl, rfl⟩
/-- hemiola/voice.whole -/
noncomputable def af304 : AF := ⟨15, .seq (.ops [⟨(some 1), none, .box (.t 0)⟩,
    ⟨(some 2), none, .move (.c (.sc (.bool false)))⟩])
  (.seq (.ops [⟨(some 3), none, .faddr 0 (.t 1)⟩,
    ⟨(some 4), none, .load none (.t 3)⟩,
    ⟨(some 5), none, .len (.t 4)⟩,
    ⟨(some 6), none, .bin .gtr (.t 5) (.c (.sc (.int .i64 (0))))⟩,
    ⟨(some 7), none, .move (.t 6)⟩,
    ⟨(some 8), (some (7, true)), .faddr 0 (.t 1)⟩,
    ⟨(some 9), (some (7, true)), .load none (.t 8)⟩,
    ⟨(some 10), (some (7, true)), .iaddrS 13 (.t 9) (.c (.sc (.int .i64 (0))))⟩,
    ⟨(some 11), (some (7, true)), .faddr 2 (.t 10)⟩,
    ⟨(some 12), (some (7, true)), .load none (.t 11)⟩,
    ⟨(some 13), (some (7, true)), .bin .eql (.t 12) (.c (.sc (.int .i64 (3))))⟩,
    ⟨(some 14), none, .pick (.t 7) (.t 13) (.c (.sc (.bool false)))⟩,
    ⟨(some 2), none, .move (.t 14)⟩])
  (.ret)),
  [.t 2]⟩
theorem ok304 : EntryOk Tryz.prog 304 af304 := ⟨Tryz.f304, _, Tryz.func304, by decide, rfl, by kernel_rfl, by kernel_rfl, rfl⟩
/-- hemiola/pitch.semitones -/
noncomputable def af308 : AF := ⟨2, .seq (.ops [⟨(some 0), none, .alloc [(.sc (.int .i64 (0))), (.sc (.int .i64 (0))), (.sc (.int .i64 (0))), (.sc (.int .i64 (0))), (.sc (.int .i64 (0))), (.sc (.int .i64 (0))), (.sc (.int .i64 (0)))]⟩])
  (.seq (.ops [⟨(some 1), none, .build [(.sc (.int .i64 (0))), (.sc (.int .i64 (0))), (.sc (.int .i64 (0))), (.sc (.int .i64 (0))), (.sc (.int .i64 (0))), (.sc (.int .i64 (0))), (.sc (.int .i64 (0)))] [((0, 1), (.c (.sc (.int .i64 (0))))), ((1, 1), (.c (.sc (.int .i64 (2))))), ((2, 1), (.c (.sc (.int .i64 (4))))), ((3, 1), (.c (.sc (.int .i64 (5))))), ((4, 1), (.c (.sc (.int .i64 (7))))), ((5, 1), (.c (.sc (.int .i64 (9))))), ((6, 1), (.c (.sc (.int .i64 (11)))))]⟩,
    ⟨none, none, .store 7 (.t 0) (.t 1)⟩])
  (.ret)),
  [.c 0 (some 7)]⟩
theorem ok308 : EntryOk Tryz.prog 308 af308 := ⟨Tryz.f308, _, Tryz.func308, by decide, rfl, by kernel_rfl, by kernel_rfl, rfl⟩
/-- hemiola/clef.kinds -/
noncomputable def af323 : AF := ⟨11, .seq (.ops [⟨(some 0), none, .alloc [(.sc (.string ⟨#[]⟩)), (.sc (.int .u8 (0))), (.sc (.int .i64 (0))), (.sc (.int .i64 (0))), (.sc (.int .i64 (0))), (.sc (.int .i64 (0))), (.sc (.int .i64 (0))), (.sc (.string ⟨#[]⟩)), (.sc (.int .u8 (0))), (.sc (.int .i64 (0))), (.sc (.int .i64 (0))), (.sc (.int .i64 (0))), (.sc (.int .i64 (0))), (.sc (.int .i64 (0))), (.sc (.string ⟨#[]⟩)), (.sc (.int .u8 (0))), (.sc (.int .i64 (0))), (.sc (.int .i64 (0))), (.sc (.int .i64 (0))), (.sc (.int .i64 (0))), (.sc (.int .i64 (0))), (.sc (.string ⟨#[]⟩)), (.sc (.int .u8 (0))), (.sc (.int .i64 (0))), (.sc (.int .i64 (0))), (.sc (.int .i64 (0))), (.sc (.int .i64 (0))), (.sc (.int .i64 (0))), (.sc (.string ⟨#[]⟩)), (.sc (.int .u8 (0))), (.sc (.int .i64 (0))), (.sc (.int .i64 (0))), (.sc (.int .i64 (0))), (.sc (.int .i64 (0))), (.sc (.int .i64 (0))), (.sc (.string ⟨#[]⟩)), (.sc (.int .u8 (0))), (.sc (.int .i64 (0))), (.sc (.int .i64 (0))), (.sc (.int .i64 (0))), (.sc (.int .i64 (0))), (.sc (.int .i64 (0))), (.sc (.string ⟨#[]⟩)), (.sc (.int .u8 (0))), (.sc (.int .i64 (0))), (.sc (.int .i64 (0))), (.sc (.int .i64 (0))), (.sc (.int .i64 (0))), (.sc (.int .i64 (0))), (.sc (.string ⟨#[]⟩)), (.sc (.int .u8 (0))), (.sc (.int .i64 (0))), (.sc (.int .i64 (0))), (.sc (.int .i64 (0))), (.sc (.int .i64 (0))), (.sc (.int .i64 (0))), (.sc (.string ⟨#[]⟩)), (.sc (.int .u8 (0))), (.sc (.int .i64 (0))), (.sc (.int .i64 (0))), (.sc (.int .i64 (0))), (.sc (.int .i64 (0))), (.sc (.int .i64 (0)))]⟩])
  (.seq (.ops [⟨(some 1), none, .build [(.sc (.string ⟨#[]⟩)), (.sc (.int .u8 (0))), (.sc (.int .i64 (0))), (.sc (.int .i64 (0))), (.sc (.int .i64 (0))), (.sc (.int .i64 (0))), (.sc (.int .i64 (0)))] [((0, 1), (.c (.sc (.string ⟨#[116, 114, 101, 98, 108, 101]⟩)))), ((1, 1), (.c (.sc (.int .u8 (71))))), ((2, 1), (.c (.sc (.int .i64 (-2))))), ((3, 1), (.c (.sc (.int .i64 (0))))), ((4, 1), (.c (.sc (.int .i64 (34))))), ((5, 1), (.c (.sc (.int .i64 (-1))))), ((6, 1), (.c (.sc (.int .i64 (-3)))))]⟩,
    ⟨(some 2), none, .build [(.sc (.string ⟨#[]⟩)), (.sc (.int .u8 (0))), (.sc (.int .i64 (0))), (.sc (.int .i64 (0))), (.sc (.int .i64 (0))), (.sc (.int .i64 (0))), (.sc (.int .i64 (0)))] [((0, 1), (.c (.sc (.string ⟨#[98, 97, 115, 115]⟩)))), ((1, 1), (.c (.sc (.int .u8 (70))))), ((2, 1), (.c (.sc (.int .i64 (2))))), ((3, 1), (.c (.sc (.int .i64 (0))))), ((4, 1), (.c (.sc (.int .i64 (22))))), ((5, 1), (.c (.sc (.int .i64 (-3))))), ((6, 1), (.c (.sc (.int .i64 (-5)))))]⟩,
    ⟨(some 3), none, .build [(.sc (.string ⟨#[]⟩)), (.sc (.int .u8 (0))), (.sc (.int .i64 (0))), (.sc (.int .i64 (0))), (.sc (.int .i64 (0))), (.sc (.int .i64 (0))), (.sc (.int .i64 (0)))] [((0, 1), (.c (.sc (.string ⟨#[97, 108, 116, 111]⟩)))), ((1, 1), (.c (.sc (.int .u8 (67))))), ((2, 1), (.c (.sc (.int .i64 (0))))), ((3, 1), (.c (.sc (.int .i64 (0))))), ((4, 1), (.c (.sc (.int .i64 (28))))), ((5, 1), (.c (.sc (.int .i64 (-2))))), ((6, 1), (.c (.sc (.int .i64 (-4)))))]⟩,
    ⟨(some 4), none, .build [(.sc (.string ⟨#[]⟩)), (.sc (.int .u8 (0))), (.sc (.int .i64 (0))), (.sc (.int .i64 (0))), (.sc (.int .i64 (0))), (.sc (.int .i64 (0))), (.sc (.int .i64 (0)))] [((0, 1), (.c (.sc (.string ⟨#[116, 101, 110, 111, 114]⟩)))), ((1, 1), (.c (.sc (.int .u8 (67))))), ((2, 1), (.c (.sc (.int .i64 (2))))), ((3, 1), (.c (.sc (.int .i64 (0))))), ((4, 1), (.c (.sc (.int .i64 (26))))), ((5, 1), (.c (.sc (.int .i64 (-2))))), ((6, 1), (.c (.sc (.int .i64 (-2)))))]⟩,
    ⟨(some 5), none, .build [(.sc (.string ⟨#[]⟩)), (.sc (.int .u8 (0))), (.sc (.int .i64 (0))), (.sc (.int .i64 (0))), (.sc (.int .i64 (0))), (.sc (.int .i64 (0))), (.sc (.int .i64 (0)))] [((0, 1), (.c (.sc (.string ⟨#[115, 111, 112, 114, 97, 110, 111]⟩)))), ((1, 1), (.c (.sc (.int .u8 (67))))), ((2, 1), (.c (.sc (.int .i64 (-4))))), ((3, 1), (.c (.sc (.int .i64 (0))))), ((4, 1), (.c (.sc (.int .i64 (32))))), ((5, 1), (.c (.sc (.int .i64 (-2))))), ((6, 1), (.c (.sc (.int .i64 (-3)))))]⟩,
    ⟨(some 6), none, .build [(.sc (.string ⟨#[]⟩)), (.sc (.int .u8 (0))), (.sc (.int .i64 (0))), (.sc (.int .i64 (0))), (.sc (.int .i64 (0))), (.sc (.int .i64 (0))), (.sc (.int .i64 (0)))] [((0, 1), (.c (.sc (.string ⟨#[109, 101, 122, 122, 111, 115, 111, 112, 114, 97, 110, 111]⟩)))), ((1, 1), (.c (.sc (.int .u8 (67))))), ((2, 1), (.c (.sc (.int .i64 (-2))))), ((3, 1), (.c (.sc (.int .i64 (0))))), ((4, 1), (.c (.sc (.int .i64 (30))))), ((5, 1), (.c (.sc (.int .i64 (-2))))), ((6, 1), (.c (.sc (.int .i64 (-3)))))]⟩,
    ⟨(some 7), none, .build [(.sc (.string ⟨#[]⟩)), (.sc (.int .u8 (0))), (.sc (.int .i64 (0))), (.sc (.int .i64 (0))), (.sc (.int .i64 (0))), (.sc (.int .i64 (0))), (.sc (.int .i64 (0)))] [((0, 1), (.c (.sc (.string ⟨#[98, 97, 114, 105, 116, 111, 110, 101]⟩)))), ((1, 1), (.c (.sc (.int .u8 (70))))), ((2, 1), (.c (.sc (.int .i64 (0))))), ((3, 1), (.c (.sc (.int .i64 (0))))), ((4, 1), (.c (.sc (.int .i64 (24))))), ((5, 1), (.c (.sc (.int .i64 (-2))))), ((6, 1), (.c (.sc (.int .i64 (-3)))))]⟩,
    ⟨(some 8), none, .build [(.sc (.string ⟨#[]⟩)), (.sc (.int .u8 (0))), (.sc (.int .i64 (0))), (.sc (.int .i64 (0))), (.sc (.int .i64 (0))), (.sc (.int .i64 (0))), (.sc (.int .i64 (0)))] [((0, 1), (.c (.sc (.string ⟨#[116, 114, 101, 98, 108, 101, 56]⟩)))), ((1, 1), (.c (.sc (.int .u8 (71))))), ((2, 1), (.c (.sc (.int .i64 (-2))))), ((3, 1), (.c (.sc (.int .i64 (-1))))), ((4, 1), (.c (.sc (.int .i64 (27))))), ((5, 1), (.c (.sc (.int .i64 (-1))))), ((6, 1), (.c (.sc (.int .i64 (-3)))))]⟩,
    ⟨(some 9), none, .build [(.sc (.string ⟨#[]⟩)), (.sc (.int .u8 (0))), (.sc (.int .i64 (0))), (.sc (.int .i64 (0))), (.sc (.int .i64 (0))), (.sc (.int .i64 (0))), (.sc (.int .i64 (0)))] [((0, 1), (.c (.sc (.string ⟨#[98, 97, 115, 115, 56]⟩)))), ((1, 1), (.c (.sc (.int .u8 (70))))), ((2, 1), (.c (.sc (.int .i64 (2))))), ((3, 1), (.c (.sc (.int .i64 (-1))))), ((4, 1), (.c (.sc (.int .i64 (15))))), ((5, 1), (.c (.sc (.int .i64 (-3))))), ((6, 1), (.c (.sc (.int .i64 (-5)))))]⟩,
    ⟨(some 10), none, .build [(.sc (.string ⟨#[]⟩)), (.sc (.int .u8 (0))), (.sc (.int .i64 (0))), (.sc (.int .i64 (0))), (.sc (.int .i64 (0))), (.sc (.int .i64 (0))), (.sc (.int .i64 (0))), (.sc (.string ⟨#[]⟩)), (.sc (.int .u8 (0))), (.sc (.int .i64 (0))), (.sc (.int .i64 (0))), (.sc (.int .i64 (0))), (.sc (.int .i64 (0))), (.sc (.int .i64 (0))), (.sc (.string ⟨#[]⟩)), (.sc (.int .u8 (0))), (.sc (.int .i64 (0))), (.sc (.int .i64 (0))), (.sc (.int .i64 (0))), (.sc (.int .i64 (0))), (.sc (.int .i64 (0))), (.sc (.string ⟨#[]⟩)), (.sc (.int .u8 (0))), (.sc (.int .i64 (0))), (.sc (.int .i64 (0))), (.sc (.int .i64 (0))), (.sc (.int .i64 (0))), (.sc (.int .i64 (0))), (.sc (.string ⟨#[]⟩)), (.sc (.int .u8 (0))), (.sc (.int .i64 (0))), (.sc (.int .i64 (0))), (.sc (.int .i64 (0))), (.sc (.int .i64 (0))), (.sc (.int .i64 (0))), (.sc (.string ⟨#[]⟩)), (.sc (.int .u8 (0))), (.sc (.int .i64 (0))), (.sc (.int .i64 (0))), (.sc (.int .i64 (0))), (.sc (.int .i64 (0))), (.sc (.int .i64 (0))), (.sc (.string ⟨#[]⟩)), (.sc (.int .u8 (0))), (.sc (.int .i64 (0))), (.sc (.int .i64 (0))), (.sc (.int .i64 (0))), (.sc (.int .i64 (0))), (.sc (.int .i64 (0))), (.sc (.string ⟨#[]⟩)), (.sc (.int .u8 (0))), (.sc (.int .i64 (0))), (.sc (.int .i64 (0))), (.sc (.int .i64 (0))), (.sc (.int .i64 (0))), (.sc (.int .i64 (0))), (.sc (.string ⟨#[]⟩)), (.sc (.int .u8 (0))), (.sc (.int .i64 (0))), (.sc (.int .i64 (0))), (.sc (.int .i64 (0))), (.sc (.int .i64 (0))), (.sc (.int .i64 (0)))] [((0, 7), (.t 1)), ((7, 7), (.t 2)), ((14, 7), (.t 3)), ((21, 7), (.t 4)), ((28, 7), (.t 5)), ((35, 7), (.t 6)), ((42, 7), (.t 7)), ((49, 7), (.t 8)), ((56, 7), (.t 9))]⟩,
    ⟨none, none, .store 63 (.t 0) (.t 10)⟩])
  (.ret)),
  [.c 0 (some 63)]⟩
theorem ok323 : EntryOk Tryz.prog 323 af323 := ⟨Tryz.f323, _, Tryz.func323, by decide, rfl, by kernel_rfl, by kernel_rfl, rfl⟩
/-- slices.Equal[[]hemiola/api.Head,hemiola/api.Head] -/
noncomputable def af327 : AF := ⟨26, .seq (.ops [⟨(some 4), none, .move (.c (.sc (.bool false)))⟩])
  (.seq (.seq (.ops [⟨(some 6), none, .move (.t 0)⟩,
    ⟨(some 7), none, .len (.t 6)⟩,
    ⟨(some 8), none, .move (.t 1)⟩,
    ⟨(some 9), none, .len (.t 8)⟩,
    ⟨(some 10), none, .bin .neq (.t 7) (.t 9)⟩])
  (.cond (.t 10)
   (.seq (.ops [⟨(some 4), none, .move (.c (.sc (.bool false)))⟩])
   (.ret))
   (.skip)))
  (.seq (.seq (.ops [⟨(some 11), none, .move (.t 0)⟩,
    ⟨(some 12), none, .len (.t 11)⟩,
    ⟨(some 13), none, .move (.c (.sc (.int .i64 (0))))⟩])
  (.block 0 (.loop (.seq (.ops [⟨(some 14), none, .bin .lss (.t 13) (.t 12)⟩])
    (.seq (.cond (.t 14)
     (.skip)
     (.exit 0))
    (.seq (.block 1 (.seq (.ops [⟨(some 15), none, .move (.t 13)⟩,
       ⟨(some 5), none, .move (.t 15)⟩])
     (.seq (.draw [⟨false, [0], [], ⟨(some 16), none, .move (.t 0)⟩⟩,
       ⟨false, [5], [], ⟨(some 17), none, .move (.t 5)⟩⟩,
       ⟨false, [16, 17], [], ⟨(some 18), none, .iaddrS 5 (.t 16) (.t 17)⟩⟩,
       ⟨false, [18], [], ⟨(some 19), none, .load (some 5) (.t 18)⟩⟩,
       ⟨false, [1], [], ⟨(some 20), none, .move (.t 1)⟩⟩,
       ⟨false, [5], [], ⟨(some 21), none, .move (.t 5)⟩⟩,
       ⟨false, [20, 21], [], ⟨(some 22), none, .iaddrS 5 (.t 20) (.t 21)⟩⟩,
       ⟨false, [22], [], ⟨(some 23), none, .load (some 5) (.t 22)⟩⟩]
       [⟨(some 24), none, .eqC [.i, .i, .i, .b, .i] true (.t 19) (.t 23)⟩])
     (.cond (.t 24)
      (.seq (.ops [⟨(some 4), none, .move (.c (.sc (.bool false)))⟩])
      (.ret))
      (.skip)))))
    (.ops [⟨(some 25), none, .bin .add (.t 13) (.c (.sc (.int .i64 (1))))⟩,
      ⟨(some 13), none, .move (.t 25)⟩])))))))
  (.seq (.ops [⟨(some 4), none, .move (.c (.sc (.bool true)))⟩])
  (.ret)))),
  [.t 4]⟩
theorem ok327 : EntryOk Tryz.prog 327 af327 := ⟨Tryz.f327, _, Tryz.func327, by decide, rfl, by kernel_rfl, by kernel_rfl, rfl⟩
/-- slices.insertionSortCmpFunc[hemiola/api.Note] -/
noncomputable def af344 : AF := ⟨53, .seq (.ops [⟨(some 10), none, .move (.t 1)⟩,
    ⟨(some 11), none, .bin .add (.t 10) (.c (.sc (.int .i64 (1))))⟩,
    ⟨(some 8), none, .move (.t 11)⟩])
  (.block 0 (.loop (.seq (.seq (.ops [⟨(some 12), none, .move (.t 8)⟩,
      ⟨(some 13), none, .move (.t 2)⟩,
      ⟨(some 14), none, .bin .lss (.t 12) (.t 13)⟩])
    (.cond (.t 14)
     (.skip)
     (.exit 0)))
    (.seq (.block 1 (.seq (.ops [⟨(some 17), none, .move (.t 8)⟩,
       ⟨(some 9), none, .move (.t 17)⟩])
     (.block 2 (.loop (.seq (.seq (.draw [⟨true, [9], [], ⟨(some 18), none, .move (.t 9)⟩⟩,
         ⟨true, [1], [], ⟨(some 19), none, .move (.t 1)⟩⟩,
         ⟨true, [18, 19], [], ⟨(some 20), none, .bin .gtr (.t 18) (.t 19)⟩⟩,
         ⟨true, [20], [], ⟨(some 21), none, .move (.t 20)⟩⟩,
         ⟨false, [3, 21], [], ⟨(some 22), (some (21, true)), .move (.t 3)⟩⟩,
         ⟨false, [0, 21], [], ⟨(some 23), (some (21, true)), .move (.t 0)⟩⟩,
         ⟨false, [9, 21], [], ⟨(some 24), (some (21, true)), .move (.t 9)⟩⟩,
         ⟨false, [23, 24, 21], [], ⟨(some 25), (some (21, true)), .iaddrS 9 (.t 23) (.t 24)⟩⟩,
         ⟨false, [25, 21], [], ⟨(some 26), (some (21, true)), .load (some 9) (.t 25)⟩⟩,
         ⟨false, [0, 21], [], ⟨(some 27), (some (21, true)), .move (.t 0)⟩⟩,
         ⟨false, [9, 21], [], ⟨(some 28), (some (21, true)), .move (.t 9)⟩⟩,
         ⟨false, [28, 21], [], ⟨(some 29), (some (21, true)), .bin .sub (.t 28) (.c (.sc (.int .i64 (1))))⟩⟩,
         ⟨false, [27, 29, 21], [], ⟨(some 30), (some (21, true)), .iaddrS 9 (.t 27) (.t 29)⟩⟩,
         ⟨false, [30, 21], [], ⟨(some 31), (some (21, true)), .load (some 9) (.t 30)⟩⟩]
         [⟨(some 32), (some (21, true)), .call (.t 22) [(.t 26), (.t 31)]⟩,
         ⟨(some 33), (some (21, true)), .bin .lss (.t 32) (.c (.sc (.int .i64 (0))))⟩,
         ⟨(some 34), none, .pick (.t 21) (.t 33) (.c (.sc (.bool false)))⟩])
       (.cond (.t 34)
        (.skip)
        (.exit 2)))
       (.seq (.block 3 (.draw [⟨false, [0], [], ⟨(some 37), none, .move (.t 0)⟩⟩,
          ⟨false, [9], [], ⟨(some 38), none, .move (.t 9)⟩⟩,
          ⟨false, [0], [], ⟨(some 39), none, .move (.t 0)⟩⟩,
          ⟨false, [9], [], ⟨(some 40), none, .move (.t 9)⟩⟩,
          ⟨false, [40], [], ⟨(some 41), none, .bin .sub (.t 40) (.c (.sc (.int .i64 (1))))⟩⟩,
          ⟨false, [0], [], ⟨(some 42), none, .move (.t 0)⟩⟩,
          ⟨false, [9], [], ⟨(some 43), none, .move (.t 9)⟩⟩,
          ⟨false, [43], [], ⟨(some 44), none, .bin .sub (.t 43) (.c (.sc (.int .i64 (1))))⟩⟩,
          ⟨false, [42, 44], [], ⟨(some 45), none, .iaddrS 9 (.t 42) (.t 44)⟩⟩,
          ⟨false, [45], [], ⟨(some 46), none, .load (some 9) (.t 45)⟩⟩,
          ⟨false, [0], [], ⟨(some 47), none, .move (.t 0)⟩⟩,
          ⟨false, [9], [], ⟨(some 48), none, .move (.t 9)⟩⟩,
          ⟨false, [47, 48], [], ⟨(some 49), none, .iaddrS 9 (.t 47) (.t 48)⟩⟩,
          ⟨false, [49], [], ⟨(some 50), none, .load (some 9) (.t 49)⟩⟩,
          ⟨true, [37, 38], [], ⟨(some 51), none, .iaddrS 9 (.t 37) (.t 38)⟩⟩,
          ⟨true, [51, 46], [], ⟨none, none, .store 9 (.t 51) (.t 46)⟩⟩]
          [⟨(some 52), none, .iaddrS 9 (.t 39) (.t 41)⟩,
          ⟨none, none, .store 9 (.t 52) (.t 50)⟩]))
       (.ops [⟨(some 35), none, .move (.t 9)⟩,
         ⟨(some 36), none, .bin .sub (.t 35) (.c (.sc (.int .i64 (1))))⟩,
         ⟨(some 9), none, .move (.t 36)⟩])))))))
    (.ops [⟨(some 15), none, .move (.t 8)⟩,
      ⟨(some 16), none, .bin .add (.t 15) (.c (.sc (.int .i64 (1))))⟩,
      ⟨(some 8), none, .move (.t 16)⟩]))))),
  []⟩
theorem ok344 : EntryOk Tryz.prog 344 af344 := ⟨Tryz.f344, _, Tryz.func344, by decide, rfl, by kernel_rfl, by kernel_rfl, rfl⟩
/-- (*hemiola/tempo.Map).last -/
noncomputable def af351 : AF := ⟨26, .seq (.ops [⟨(some 2), none, .alloc [(.sc (.int .i64 (0))), (.sc (.int .i64 (0))), (.sc (.int .i64 (0))), (.sc (.int .i64 (0))), (.sc (.int .i64 (0)))]⟩])
  (.seq (.seq (.ops [⟨(some 3), none, .move (.t 0)⟩,
    ⟨(some 4), none, .eqN .pt false (.t 3) (.c (.sc (.pointer none)))⟩,
    ⟨(some 5), none, .move (.t 4)⟩,
    ⟨(some 6), (some (5, false)), .move (.t 0)⟩,
    ⟨(some 7), (some (5, false)), .nilCheck (.t 6)⟩,
    ⟨(some 8), (some (5, false)), .faddr 0 (.t 7)⟩,
    ⟨(some 9), (some (5, false)), .load none (.t 8)⟩,
    ⟨(some 10), (some (5, false)), .len (.t 9)⟩,
    ⟨(some 11), (some (5, false)), .bin .eql (.t 10) (.c (.sc (.int .i64 (0))))⟩,
    ⟨(some 12), none, .pick (.t 5) (.c (.sc (.bool true))) (.t 11)⟩])
  (.cond (.t 12)
   (.seq (.ops [⟨(some 13), none, .build [(.sc (.int .i64 (0))), (.sc (.int .i64 (0))), (.sc (.int .i64 (0))), (.sc (.int .i64 (0))), (.sc (.int .i64 (0)))] []⟩,
     ⟨none, none, .store 5 (.t 2) (.t 13)⟩])
   (.ret))
   (.skip)))
  (.seq (.draw [⟨false, [0], [], ⟨(some 14), none, .move (.t 0)⟩⟩,
    ⟨false, [14], [], ⟨(some 15), none, .nilCheck (.t 14)⟩⟩,
    ⟨false, [15], [], ⟨(some 16), none, .faddr 0 (.t 15)⟩⟩,
    ⟨false, [16], [], ⟨(some 17), none, .load none (.t 16)⟩⟩,
    ⟨false, [0], [], ⟨(some 18), none, .move (.t 0)⟩⟩,
    ⟨false, [18], [], ⟨(some 19), none, .nilCheck (.t 18)⟩⟩,
    ⟨false, [19], [], ⟨(some 20), none, .faddr 0 (.t 19)⟩⟩,
    ⟨false, [20], [], ⟨(some 21), none, .load none (.t 20)⟩⟩,
    ⟨false, [21], [], ⟨(some 22), none, .len (.t 21)⟩⟩,
    ⟨false, [22], [], ⟨(some 23), none, .bin .sub (.t 22) (.c (.sc (.int .i64 (1))))⟩⟩]
    [⟨(some 24), none, .iaddrS 5 (.t 17) (.t 23)⟩,
    ⟨(some 25), none, .load (some 5) (.t 24)⟩,
    ⟨none, none, .store 5 (.t 2) (.t 25)⟩])
  (.ret))),
  [.c 2 (some 5)]⟩
theorem ok351 : EntryOk Tryz.prog 351 af351 := ⟨Tryz.f351, _, Tryz.func351, by decide, rfl, by kernel_rfl, by kernel_rfl, rfl⟩
/-- hemiola/tuplet.scale -/
noncomputable def af360 : AF := ⟨33, .seq (.ops [⟨(some 6), none, .move (.c (.sc (.int .i64 (0))))⟩,
    ⟨(some 7), none, .move (.c (.sc (.int .i64 (0))))⟩])
  (.seq (.seq (.ops [⟨(some 10), none, .move (.t 2)⟩,
    ⟨(some 11), none, .bin .lss (.t 10) (.c (.sc (.int .i64 (0))))⟩,
    ⟨(some 12), none, .move (.t 11)⟩,
    ⟨(some 13), (some (12, false)), .move (.t 2)⟩,
    ⟨(some 14), (some (12, false)), .bin .gtr (.t 13) (.c (.sc (.int .i64 (7741440))))⟩,
    ⟨(some 15), none, .pick (.t 12) (.c (.sc (.bool true))) (.t 14)⟩])
  (.cond (.t 15)
   (.seq (.ops [⟨(some 6), none, .move (.c (.sc (.int .i64 (0))))⟩,
     ⟨(some 7), none, .move (.c (.sc (.int .i64 (2))))⟩])
   (.ret))
   (.skip)))
  (.seq (.ops [⟨(some 17), none, .move (.t 0)⟩,
    ⟨(some 18), none, .move (.t 1)⟩,
    ⟨(some 19), none, .call (.c (.fn (.func 368) [] [])) [(.t 17), (.t 18)]⟩,
    ⟨(some 16), none, .move (.t 19)⟩,
    ⟨(some 20), none, .extract 0 (.t 16)⟩,
    ⟨(some 21), none, .extract 1 (.t 16)⟩,
    ⟨(some 8), none, .move (.t 20)⟩,
    ⟨(some 9), none, .move (.t 21)⟩])
  (.seq (.seq (.ops [⟨(some 22), none, .move (.t 2)⟩,
    ⟨(some 23), none, .move (.t 8)⟩,
    ⟨(some 24), none, .bin .mul (.t 22) (.t 23)⟩,
    ⟨(some 25), none, .move (.t 9)⟩,
    ⟨(some 26), none, .bin .rem (.t 24) (.t 25)⟩,
    ⟨(some 27), none, .bin .neq (.t 26) (.c (.sc (.int .i64 (0))))⟩])
  (.cond (.t 27)
   (.seq (.ops [⟨(some 6), none, .move (.c (.sc (.int .i64 (0))))⟩,
     ⟨(some 7), none, .move (.c (.sc (.int .i64 (16))))⟩])
   (.ret))
   (.skip)))
  (.seq (.ops [⟨(some 28), none, .move (.t 2)⟩,
    ⟨(some 29), none, .move (.t 8)⟩,
    ⟨(some 30), none, .bin .mul (.t 28) (.t 29)⟩,
    ⟨(some 31), none, .move (.t 9)⟩,
    ⟨(some 32), none, .bin .quo (.t 30) (.t 31)⟩,
    ⟨(some 6), none, .move (.t 32)⟩,
    ⟨(some 7), none, .move (.c (.sc (.int .i64 (0))))⟩])
  (.ret))))),
  [.t 6, .t 7]⟩
theorem ok360 : EntryOk Tryz.prog 360 af360 := ⟨Tryz.f360, _, Tryz.func360, by decide, rfl, by kernel_rfl, by kernel_rfl, rfl⟩
end Go.Proofs.YtmbchdfgckmpoaaGreatDoor
