/- Resolved code, printed by a program. -/
import Derived.Test.YtmbchdfgckmpoaaGreatPE21
import Derived.Test.YtmbchdfgckmpoaaGreatProg
namespace Go.Proofs.YtmbchdfgckmpoaaGreat
open Go.PE

/-- hemiola/perform.Share -/
noncomputable def af7 : AF := ⟨25, .seq (.ops [⟨(some 4), none, .move (.c (.sc (.int .i64 (0))))⟩])
  (.seq (.ops [⟨(some 7), none, .move (.t 0)⟩,
    ⟨(some 8), none, .bin .and (.t 7) (.c (.sc (.int .i64 (1))))⟩,
    ⟨(some 9), none, .bin .neq (.t 8) (.c (.sc (.int .i64 (0))))⟩,
    ⟨(some 10), none, .move (.t 0)⟩,
    ⟨(some 11), none, .bin .and (.t 10) (.c (.sc (.int .i64 (2))))⟩,
    ⟨(some 12), none, .bin .neq (.t 11) (.c (.sc (.int .i64 (0))))⟩,
    ⟨(some 5), none, .move (.t 9)⟩,
    ⟨(some 6), none, .move (.t 12)⟩])
  (.seq (.block 0 (.seq (.ops [⟨(some 14), none, .move (.t 5)⟩,
     ⟨(some 15), none, .move (.t 14)⟩,
     ⟨(some 16), (some (15, true)), .move (.t 6)⟩,
     ⟨(some 17), none, .pick (.t 15) (.t 16) (.c (.sc (.bool false)))⟩,
     ⟨(some 13), none, .move (.t 17)⟩])
   (.cond (.t 13)
    (.seq (.ops [⟨(some 4), none, .move (.c (.sc (.int .i64 (75))))⟩])
    (.ret))
    (.seq (.ops [⟨(some 19), none, .move (.t 5)⟩,
      ⟨(some 18), none, .move (.t 19)⟩])
    (.cond (.t 18)
     (.seq (.ops [⟨(some 4), none, .move (.c (.sc (.int .i64 (50))))⟩])
     (.ret))
     (.seq (.ops [⟨(some 21), none, .move (.t 6)⟩,
       ⟨(some 22), none, .move (.t 21)⟩,
       ⟨(some 23), (some (22, false)), .move (.t 1)⟩,
       ⟨(some 24), none, .pick (.t 22) (.c (.sc (.bool true))) (.t 23)⟩,
       ⟨(some 20), none, .move (.t 24)⟩])
     (.cond (.t 20)
      (.seq (.ops [⟨(some 4), none, .move (.c (.sc (.int .i64 (100))))⟩])
      (.ret))
      (.skip))))))))
  (.seq (.ops [⟨(some 4), none, .move (.c (.sc (.int .i64 (95))))⟩])
  (.ret)))),
  [.t 4]⟩
theorem ok7 : EntryOk Tryz.prog 7 af7 := ⟨Tryz.f7, _, Tryz.func7, by decide, rfl, by kernel_rfl, by kernel_rfl, rfl⟩
/-- hemiola/perform.Velocity -/
noncomputable def af20 : AF := ⟨29, .seq (.ops [⟨(some 2), none, .box (.t 0)⟩,
    ⟨(some 3), none, .box (.t 1)⟩,
    ⟨(some 4), none, .move (.c (.sc (.int .i64 (0))))⟩,
    ⟨(some 5), none, .move (.c (.sc (.int .i64 (0))))⟩])
  (.seq (.seq (.ops [⟨(some 9), none, .load (some 6) (.t 2)⟩,
    ⟨(some 10), none, .call (.c (.fn (.func 29) [] [])) [(.t 9)]⟩,
    ⟨(some 11), none, .un .not (.t 10)⟩])
  (.cond (.t 11)
   (.seq (.ops [⟨(some 4), none, .move (.c (.sc (.int .i64 (0))))⟩,
     ⟨(some 5), none, .move (.c (.sc (.int .i64 (24))))⟩])
   (.ret))
   (.skip)))
  (.seq (.ops [⟨(some 12), none, .load (some 6) (.t 2)⟩,
    ⟨(some 13), none, .call (.c (.fn (.func 33) [] [])) [(.t 12)]⟩,
    ⟨(some 6), none, .move (.t 13)⟩])
  (.seq (.ops [⟨(some 15), none, .move (.t 6)⟩,
    ⟨(some 16), none, .load (some 2) (.t 3)⟩,
    ⟨(some 17), none, .lookup [.i, .i] true (.agg [(.sc (.int .i64 (0))), (.sc (.int .i64 (0))), (.sc (.int .i64 (0))), (.sc (.int .i64 (0))), (.sc (.int .i64 (0))), (.sl true .full 0 []), (.sl true .full 0 []), (.sc (.int .i64 (0))), (.sc (.int .i64 (0))), (.sc (.int .i64 (0))), (.sl true .full 0 []), (.sc (.int .i64 (0))), (.sc (.int .i64 (0))), (.sc (.int .i64 (0))), (.sc (.int .i64 (0))), (.sc (.int .i64 (0))), (.sc (.int .i64 (0))), (.sc (.int .i64 (0)))]) (.t 15) (.t 16) true⟩,
    ⟨(some 14), none, .move (.t 17)⟩,
    ⟨(some 18), none, .extract 0 (.t 14)⟩,
    ⟨(some 19), none, .extract 1 (.t 14)⟩,
    ⟨(some 7), none, .alloc [(.sc (.int .i64 (0))), (.sc (.int .i64 (0))), (.sc (.int .i64 (0))), (.sc (.int .i64 (0))), (.sc (.int .i64 (0))), (.sl true .full 0 []), (.sl true .full 0 []), (.sc (.int .i64 (0))), (.sc (.int .i64 (0))), (.sc (.int .i64 (0))), (.sl true .full 0 []), (.sc (.int .i64 (0))), (.sc (.int .i64 (0))), (.sc (.int .i64 (0))), (.sc (.int .i64 (0))), (.sc (.int .i64 (0))), (.sc (.int .i64 (0))), (.sc (.int .i64 (0)))]⟩,
    ⟨none, none, .store 18 (.t 7) (.t 18)⟩,
    ⟨(some 8), none, .move (.t 19)⟩])
  (.seq (.seq (.ops [⟨(some 20), none, .move (.t 8)⟩,
    ⟨(some 21), none, .un .not (.t 20)⟩])
  (.cond (.t 21)
   (.seq (.ops [⟨(some 4), none, .move (.c (.sc (.int .i64 (0))))⟩,
     ⟨(some 5), none, .move (.c (.sc (.int .i64 (8))))⟩])
   (.ret))
   (.skip)))
  (.seq (.draw [⟨false, [7], [5], ⟨(some 22), none, .load (some 18) (.t 7)⟩⟩,
    ⟨false, [2], [], ⟨(some 23), none, .load (some 6) (.t 2)⟩⟩,
    ⟨false, [6], [], ⟨(some 24), none, .move (.t 6)⟩⟩,
    ⟨false, [7], [], ⟨(some 25), none, .faddr 13 (.t 7)⟩⟩,
    ⟨false, [25], [], ⟨(some 26), none, .load none (.t 25)⟩⟩,
    ⟨true, [23, 24, 26], [], ⟨(some 27), none, .call (.c (.fn (.func 38) [] [])) [(.t 23), (.t 24), (.t 26)]⟩⟩]
    [⟨(some 28), none, .call (.c (.fn (.func 37) [] [])) [(.t 22), (.t 27)]⟩,
    ⟨(some 4), none, .move (.t 28)⟩,
    ⟨(some 5), none, .move (.c (.sc (.int .i64 (0))))⟩])
  (.ret)))))),
  [.t 4, .t 5]⟩
theorem ok20 : EntryOk Tryz.prog 20 af20 := ⟨Tryz.f20, _, Tryz.func20, by decide, rfl, by kernel_rfl, by kernel_rfl, rfl⟩
/-- hemiola/unfold.Unfold -/
noncomputable def af30 : AF := ⟨30, .seq (.ops [⟨(some 1), none, .box (.t 0)⟩,
    ⟨(some 2), none, .alloc [(.sl true .full 0 [])]⟩,
    ⟨(some 3), none, .alloc [(.sc (.int .i64 (0)))]⟩])
  (.seq (.seq (.ops [⟨(some 7), none, .load (some 6) (.t 1)⟩,
    ⟨(some 8), none, .call (.c (.fn (.func 29) [] [])) [(.t 7)]⟩,
    ⟨(some 9), none, .un .not (.t 8)⟩])
  (.cond (.t 9)
   (.seq (.ops [⟨none, none, .store 1 (.t 2) (.c (.sl true .full 0 []))⟩,
     ⟨none, none, .store 1 (.t 3) (.c (.sc (.int .i64 (24))))⟩])
   (.ret))
   (.skip)))
  (.seq (.ops [⟨(some 4), none, .alloc [(.sl true .full 0 [])]⟩])
  (.seq (.ops [⟨(some 10), none, .mkMap⟩,
    ⟨(some 5), none, .alloc [(.sc (.map none))]⟩,
    ⟨none, none, .store 1 (.t 5) (.t 10)⟩])
  (.seq (.seq (.ops [⟨(some 11), none, .load (some 6) (.t 1)⟩,
    ⟨(some 12), none, .call (.c (.fn (.func 42) [] [])) [(.t 11)]⟩])
  (.block 0 (.range (.t 12) #[13]
    (.ops [⟨(some 6), none, .move (.t 13)⟩])
    (.block 1 (.seq (.seq (.ops [⟨(some 14), none, .load none (.t 4)⟩,
       ⟨(some 15), none, .len (.t 14)⟩,
       ⟨(some 16), none, .bin .eql (.t 15) (.c (.sc (.int .i64 (8192))))⟩])
     (.cond (.t 16)
      (.seq (.ops [⟨none, none, .store 1 (.t 2) (.c (.sl true .full 0 []))⟩,
        ⟨none, none, .store 1 (.t 3) (.c (.sc (.int .i64 (9))))⟩])
      (.ret))
      (.skip)))
     (.seq (.ops [⟨(some 17), none, .load none (.t 4)⟩,
       ⟨(some 18), none, .move (.t 6)⟩,
       ⟨(some 19), none, .load none (.t 5)⟩,
       ⟨(some 20), none, .move (.t 6)⟩,
       ⟨(some 21), none, .lookup [.i] false (.sc (.int .i64 (0))) (.t 19) (.t 20) false⟩,
       ⟨(some 22), none, .build [(.sc (.int .i64 (0))), (.sc (.int .i64 (0)))] [((0, 1), (.t 18)), ((1, 1), (.t 21))]⟩,
       ⟨(some 23), none, .buildSl 2 [(.t 22)]⟩,
       ⟨(some 24), none, .append 2 16 (.t 17) (.t 23)⟩,
       ⟨none, none, .store 1 (.t 4) (.t 24)⟩])
     (.ops [⟨(some 25), none, .load none (.t 5)⟩,
       ⟨(some 26), none, .move (.t 6)⟩,
       ⟨(some 27), none, .lookup [.i] false (.sc (.int .i64 (0))) (.t 25) (.t 26) false⟩,
       ⟨(some 28), none, .bin .add (.t 27) (.c (.sc (.int .i64 (1))))⟩,
       ⟨none, none, .mapUp [.i] false (.t 25) (.t 26) (.t 28)⟩]))))
    (codeAt (Tryz.f30.body.getD .skip) [1, 1, 1, 1, 0, 1, 0, 0]) (codeAt (Tryz.f30.body.getD .skip) [1, 1, 1, 1, 0, 1, 0, 1]))))
  (.seq (.ops [⟨(some 29), none, .load none (.t 4)⟩,
    ⟨none, none, .store 1 (.t 2) (.t 29)⟩,
    ⟨none, none, .store 1 (.t 3) (.c (.sc (.int .i64 (0))))⟩])
  (.ret)))))),
  [.c 2 none, .c 3 none]⟩
theorem ok30 : EntryOk Tryz.prog 30 af30 := ⟨Tryz.f30, _, Tryz.func30, by decide, rfl, by kernel_rfl, by kernel_rfl, rfl⟩
/-- hemiola/unfold.Onsets -/
noncomputable def af34 : AF := ⟨50, .seq (.ops [⟨(some 2), none, .box (.t 0)⟩,
    ⟨(some 4), none, .move (.c (.sl true .full 0 []))⟩,
    ⟨(some 5), none, .move (.c (.sc (.int .i64 (0))))⟩])
  (.seq (.seq (.ops [⟨(some 12), none, .load (some 6) (.t 2)⟩,
    ⟨(some 13), none, .move (.t 1)⟩,
    ⟨(some 14), none, .call (.c (.fn (.func 56) [] [])) [(.t 12), (.t 13)]⟩,
    ⟨(some 6), none, .move (.t 14)⟩])
  (.seq (.ops [⟨(some 15), none, .move (.t 6)⟩,
    ⟨(some 16), none, .bin .neq (.t 15) (.c (.sc (.int .i64 (0))))⟩])
  (.cond (.t 16)
   (.seq (.ops [⟨(some 17), none, .move (.t 6)⟩,
     ⟨(some 4), none, .move (.c (.sl true .full 0 []))⟩,
     ⟨(some 5), none, .move (.t 17)⟩])
   (.ret))
   (.skip))))
  (.seq (.ops [⟨(some 18), none, .buildSl 1 [(.c (.sc (.int .i64 (0))))]⟩,
    ⟨(some 7), none, .move (.t 18)⟩])
  (.seq (.seq (.ops [⟨(some 19), none, .move (.t 1)⟩,
    ⟨(some 20), none, .len (.t 19)⟩,
    ⟨(some 21), none, .move (.c (.sc (.int .i64 (0))))⟩])
  (.block 0 (.loop (.seq (.ops [⟨(some 22), none, .bin .lss (.t 21) (.t 20)⟩])
    (.seq (.cond (.t 22)
     (.skip)
     (.exit 0))
    (.seq (.block 1 (.seq (.ops [⟨(some 23), none, .move (.t 21)⟩,
       ⟨(some 24), none, .iaddrS 2 (.t 19) (.t 21)⟩,
       ⟨(some 25), none, .load (some 2) (.t 24)⟩,
       ⟨(some 9), none, .alloc [(.sc (.int .i64 (0))), (.sc (.int .i64 (0)))]⟩,
       ⟨(some 8), none, .move (.t 23)⟩,
       ⟨none, none, .store 2 (.t 9) (.t 25)⟩])
     (.seq (.ops [⟨(some 27), none, .faddr 3 (.t 2)⟩,
       ⟨(some 28), none, .load none (.t 27)⟩,
       ⟨(some 29), none, .faddr 0 (.t 9)⟩,
       ⟨(some 30), none, .load none (.t 29)⟩,
       ⟨(some 31), none, .iaddrS 22 (.t 28) (.t 30)⟩,
       ⟨(some 32), none, .load (some 22) (.t 31)⟩,
       ⟨(some 33), none, .call (.c (.fn (.func 53) [] [])) [(.t 32)]⟩,
       ⟨(some 26), none, .move (.t 33)⟩,
       ⟨(some 34), none, .extract 0 (.t 26)⟩,
       ⟨(some 35), none, .extract 1 (.t 26)⟩,
       ⟨(some 10), none, .move (.t 34)⟩,
       ⟨(some 11), none, .move (.t 35)⟩])
     (.seq (.seq (.ops [⟨(some 36), none, .move (.t 11)⟩,
       ⟨(some 37), none, .bin .neq (.t 36) (.c (.sc (.int .i64 (0))))⟩])
     (.cond (.t 37)
      (.seq (.ops [⟨(some 38), none, .move (.t 11)⟩,
        ⟨(some 4), none, .move (.c (.sl true .full 0 []))⟩,
        ⟨(some 5), none, .move (.t 38)⟩])
      (.ret))
      (.skip)))
     (.ops [⟨(some 39), none, .move (.t 7)⟩,
       ⟨(some 40), none, .move (.t 7)⟩,
       ⟨(some 41), none, .move (.t 8)⟩,
       ⟨(some 42), none, .iaddrS 1 (.t 40) (.t 41)⟩,
       ⟨(some 43), none, .load none (.t 42)⟩,
       ⟨(some 44), none, .move (.t 10)⟩,
       ⟨(some 45), none, .bin .add (.t 43) (.t 44)⟩,
       ⟨(some 46), none, .buildSl 1 [(.t 45)]⟩,
       ⟨(some 47), none, .append 1 8 (.t 39) (.t 46)⟩,
       ⟨(some 7), none, .move (.t 47)⟩])))))
    (.ops [⟨(some 48), none, .bin .add (.t 21) (.c (.sc (.int .i64 (1))))⟩,
      ⟨(some 21), none, .move (.t 48)⟩])))))))
  (.seq (.ops [⟨(some 49), none, .move (.t 7)⟩,
    ⟨(some 4), none, .move (.t 49)⟩,
    ⟨(some 5), none, .move (.c (.sc (.int .i64 (0))))⟩])
  (.ret))))),
  [.t 4, .t 5]⟩
theorem ok34 : EntryOk Tryz.prog 34 af34 := ⟨Tryz.f34, _, Tryz.func34, by decide, rfl, by kernel_rfl, by kernel_rfl, rfl⟩
/-- hemiola/perform.levels -/
noncomputable def af38 : AF := ⟨89, .seq (.ops [⟨(some 3), none, .box (.t 0)⟩,
    ⟨(some 6), none, .move (.c (.sc .nilFunc))⟩])
  (.seq (.ops [⟨(some 7), none, .alloc [(.sl true .full 0 [])]⟩])
  (.seq (.seq (.ops [⟨(some 17), none, .move (.t 1)⟩,
    ⟨(some 18), none, .rangeM (.t 17)⟩])
  (.block 0 (.loop (.seq (.ops [⟨(some 19), none, .nextM (.t 18)⟩,
      ⟨(some 20), none, .extract 0 (.t 19)⟩])
    (.seq (.cond (.t 20)
     (.skip)
     (.exit 0))
    (.block 1 (.seq (.ops [⟨(some 21), none, .entryM (.t 18)⟩,
       ⟨(some 22), none, .extract 1 (.t 21)⟩,
       ⟨(some 9), none, .alloc [(.sc (.int .i64 (0))), (.sc (.int .i64 (0))), (.sc (.int .i64 (0))), (.sc (.int .i64 (0))), (.sc (.int .i64 (0))), (.sl true .full 0 []), (.sl true .full 0 []), (.sc (.int .i64 (0))), (.sc (.int .i64 (0))), (.sc (.int .i64 (0))), (.sl true .full 0 []), (.sc (.int .i64 (0))), (.sc (.int .i64 (0))), (.sc (.int .i64 (0))), (.sc (.int .i64 (0))), (.sc (.int .i64 (0))), (.sc (.int .i64 (0))), (.sc (.int .i64 (0)))]⟩,
       ⟨none, none, .store 18 (.t 9) (.t 22)⟩])
     (.seq (.ops [⟨(some 24), none, .faddr 0 (.t 9)⟩,
       ⟨(some 25), none, .faddr 9 (.t 24)⟩,
       ⟨(some 26), none, .load none (.t 25)⟩,
       ⟨(some 27), none, .call (.c (.fn (.func 64) [] [])) [(.t 26)]⟩,
       ⟨(some 23), none, .move (.t 27)⟩,
       ⟨(some 28), none, .extract 0 (.t 23)⟩,
       ⟨(some 29), none, .extract 1 (.t 23)⟩,
       ⟨(some 10), none, .move (.t 28)⟩,
       ⟨(some 11), none, .move (.t 29)⟩])
     (.seq (.ops [⟨(some 30), none, .move (.t 11)⟩,
       ⟨(some 31), none, .move (.t 30)⟩,
       ⟨(some 32), (some (31, true)), .faddr 13 (.t 9)⟩,
       ⟨(some 33), (some (31, true)), .load none (.t 32)⟩,
       ⟨(some 34), (some (31, true)), .move (.t 2)⟩,
       ⟨(some 35), (some (31, true)), .bin .eql (.t 33) (.t 34)⟩,
       ⟨(some 36), none, .pick (.t 31) (.t 35) (.c (.sc (.bool false)))⟩])
     (.cond (.t 36)
      (.ops [⟨(some 37), none, .load none (.t 7)⟩,
        ⟨(some 38), none, .load (some 18) (.t 9)⟩,
        ⟨(some 39), none, .buildSl 18 [(.t 38)]⟩,
        ⟨(some 40), none, .append 18 192 (.t 37) (.t 39)⟩,
        ⟨none, none, .store 1 (.t 7) (.t 40)⟩])
      (.skip)))))))))))
  (.seq (.ops [⟨(some 41), none, .load none (.t 7)⟩,
    ⟨(some 42), none, .call (.c (.fn (.func 65) [] [])) [(.t 41), (.c (.fn (.func 66) [] []))]⟩])
  (.seq (.ops [⟨(some 12), none, .alloc [(.sl true .full 0 [])]⟩])
  (.seq (.seq (.ops [⟨(some 43), none, .faddr 4 (.t 3)⟩,
    ⟨(some 44), none, .load none (.t 43)⟩,
    ⟨(some 45), none, .len (.t 44)⟩,
    ⟨(some 46), none, .move (.c (.sc (.int .i64 (0))))⟩])
  (.block 2 (.loop (.seq (.ops [⟨(some 47), none, .bin .lss (.t 46) (.t 45)⟩])
    (.seq (.cond (.t 47)
     (.skip)
     (.exit 2))
    (.seq (.block 3 (.seq (.ops [⟨(some 48), none, .iaddrS 7 (.t 44) (.t 46)⟩,
       ⟨(some 49), none, .load (some 7) (.t 48)⟩,
       ⟨(some 14), none, .alloc [(.sc (.int .i64 (0))), (.sc (.int .i64 (0))), (.sc (.int .i64 (0))), (.sc (.int .i64 (0))), (.sc (.int .i64 (0))), (.sc (.int .i64 (0))), (.sc (.int .i64 (0)))]⟩,
       ⟨none, none, .store 7 (.t 14) (.t 49)⟩])
     (.seq (.draw [⟨false, [1], [], ⟨(some 50), none, .move (.t 1)⟩⟩,
       ⟨false, [14], [], ⟨(some 51), none, .faddr 3 (.t 14)⟩⟩,
       ⟨false, [51], [7], ⟨(some 52), none, .load (some 2) (.t 51)⟩⟩,
       ⟨false, [50, 52], [], ⟨(some 53), none, .lookup [.i, .i] true (.agg [(.sc (.int .i64 (0))), (.sc (.int .i64 (0))), (.sc (.int .i64 (0))), (.sc (.int .i64 (0))), (.sc (.int .i64 (0))), (.sl true .full 0 []), (.sl true .full 0 []), (.sc (.int .i64 (0))), (.sc (.int .i64 (0))), (.sc (.int .i64 (0))), (.sl true .full 0 []), (.sc (.int .i64 (0))), (.sc (.int .i64 (0))), (.sc (.int .i64 (0))), (.sc (.int .i64 (0))), (.sc (.int .i64 (0))), (.sc (.int .i64 (0))), (.sc (.int .i64 (0)))]) (.t 50) (.t 52) false⟩⟩,
       ⟨false, [1], [], ⟨(some 54), none, .move (.t 1)⟩⟩,
       ⟨false, [14], [], ⟨(some 55), none, .faddr 5 (.t 14)⟩⟩,
       ⟨false, [55], [3, 10], ⟨(some 56), none, .load (some 2) (.t 55)⟩⟩,
       ⟨false, [54, 56], [], ⟨(some 57), none, .lookup [.i, .i] true (.agg [(.sc (.int .i64 (0))), (.sc (.int .i64 (0))), (.sc (.int .i64 (0))), (.sc (.int .i64 (0))), (.sc (.int .i64 (0))), (.sl true .full 0 []), (.sl true .full 0 []), (.sc (.int .i64 (0))), (.sc (.int .i64 (0))), (.sc (.int .i64 (0))), (.sl true .full 0 []), (.sc (.int .i64 (0))), (.sc (.int .i64 (0))), (.sc (.int .i64 (0))), (.sc (.int .i64 (0))), (.sc (.int .i64 (0))), (.sc (.int .i64 (0))), (.sc (.int .i64 (0)))]) (.t 54) (.t 56) false⟩⟩,
       ⟨false, [], [3, 7], ⟨(some 15), none, .alloc [(.sc (.int .i64 (0))), (.sc (.int .i64 (0))), (.sc (.int .i64 (0))), (.sc (.int .i64 (0))), (.sc (.int .i64 (0))), (.sl true .full 0 []), (.sl true .full 0 []), (.sc (.int .i64 (0))), (.sc (.int .i64 (0))), (.sc (.int .i64 (0))), (.sl true .full 0 []), (.sc (.int .i64 (0))), (.sc (.int .i64 (0))), (.sc (.int .i64 (0))), (.sc (.int .i64 (0))), (.sc (.int .i64 (0))), (.sc (.int .i64 (0))), (.sc (.int .i64 (0)))]⟩⟩,
       ⟨false, [], [3, 7], ⟨(some 16), none, .alloc [(.sc (.int .i64 (0))), (.sc (.int .i64 (0))), (.sc (.int .i64 (0))), (.sc (.int .i64 (0))), (.sc (.int .i64 (0))), (.sl true .full 0 []), (.sl true .full 0 []), (.sc (.int .i64 (0))), (.sc (.int .i64 (0))), (.sc (.int .i64 (0))), (.sl true .full 0 []), (.sc (.int .i64 (0))), (.sc (.int .i64 (0))), (.sc (.int .i64 (0))), (.sc (.int .i64 (0))), (.sc (.int .i64 (0))), (.sc (.int .i64 (0))), (.sc (.int .i64 (0)))]⟩⟩,
       ⟨false, [15, 53], [], ⟨none, none, .store 18 (.t 15) (.t 53)⟩⟩]
       [⟨none, none, .store 18 (.t 16) (.t 57)⟩])
     (.seq (.ops [⟨(some 58), none, .faddr 2 (.t 14)⟩,
       ⟨(some 59), none, .load none (.t 58)⟩,
       ⟨(some 60), none, .bin .eql (.t 59) (.c (.sc (.int .i64 (2))))⟩,
       ⟨(some 61), none, .move (.t 60)⟩,
       ⟨(some 62), (some (61, false)), .faddr 2 (.t 14)⟩,
       ⟨(some 63), (some (61, false)), .load none (.t 62)⟩,
       ⟨(some 64), (some (61, false)), .bin .eql (.t 63) (.c (.sc (.int .i64 (3))))⟩,
       ⟨(some 65), none, .pick (.t 61) (.c (.sc (.bool true))) (.t 64)⟩,
       ⟨(some 66), none, .move (.t 65)⟩,
       ⟨(some 67), (some (66, true)), .faddr 13 (.t 15)⟩,
       ⟨(some 68), (some (66, true)), .load none (.t 67)⟩,
       ⟨(some 69), (some (66, true)), .move (.t 2)⟩,
       ⟨(some 70), (some (66, true)), .bin .eql (.t 68) (.t 69)⟩,
       ⟨(some 71), none, .pick (.t 66) (.t 70) (.c (.sc (.bool false)))⟩])
     (.cond (.t 71)
      (.ops [⟨(some 72), none, .load none (.t 12)⟩,
        ⟨(some 73), none, .faddr 16 (.t 15)⟩,
        ⟨(some 74), none, .load none (.t 73)⟩,
        ⟨(some 75), none, .faddr 16 (.t 16)⟩,
        ⟨(some 76), none, .load none (.t 75)⟩,
        ⟨(some 77), none, .faddr 2 (.t 14)⟩,
        ⟨(some 78), none, .load none (.t 77)⟩,
        ⟨(some 79), none, .bin .eql (.t 78) (.c (.sc (.int .i64 (2))))⟩,
        ⟨(some 80), none, .faddr 0 (.t 16)⟩,
        ⟨(some 81), none, .load (some 13) (.t 80)⟩,
        ⟨(some 82), none, .build [(.sc (.int .i64 (0))), (.sc (.int .i64 (0))), (.sc (.bool false)), (.sc (.int .i64 (0))), (.sc (.int .i64 (0))), (.sc (.int .i64 (0))), (.sc (.int .i64 (0))), (.sc (.int .i64 (0))), (.sl true .full 0 []), (.sl true .full 0 []), (.sc (.int .i64 (0))), (.sc (.int .i64 (0))), (.sc (.int .i64 (0))), (.sl true .full 0 []), (.sc (.int .i64 (0))), (.sc (.int .i64 (0)))] [((0, 1), (.t 74)), ((1, 1), (.t 76)), ((2, 1), (.t 79)), ((3, 13), (.t 81))]⟩,
        ⟨(some 83), none, .buildSl 16 [(.t 82)]⟩,
        ⟨(some 84), none, .append 16 176 (.t 72) (.t 83)⟩,
        ⟨none, none, .store 1 (.t 12) (.t 84)⟩])
      (.skip))))))
    (.ops [⟨(some 85), none, .bin .add (.t 46) (.c (.sc (.int .i64 (1))))⟩,
      ⟨(some 46), none, .move (.t 85)⟩])))))))
  (.seq (.ops [⟨(some 86), none, .load none (.t 12)⟩,
    ⟨(some 87), none, .call (.c (.fn (.func 67) [] [])) [(.t 86), (.c (.fn (.func 68) [] []))]⟩])
  (.seq (.ops [⟨(some 88), none, .mkFn (.func 69) [] [(.t 7), (.t 12)]⟩,
    ⟨(some 6), none, .move (.t 88)⟩])
  (.ret)))))))),
  [.t 6]⟩
theorem ok38 : EntryOk Tryz.prog 38 af38 := ⟨Tryz.f38, _, Tryz.func38, by decide, rfl, by kernel_rfl, by kernel_rfl, rfl⟩
/-- hemiola/timeline.Starts -/
noncomputable def af43 : AF := ⟨9, .seq (.ops [⟨(some 1), none, .box (.t 0)⟩,
    ⟨(some 2), none, .move (.c (.sl true .full 0 []))⟩,
    ⟨(some 3), none, .move (.c (.sc (.int .i64 (0))))⟩])
  (.seq (.seq (.ops [⟨(some 4), none, .load (some 6) (.t 1)⟩,
    ⟨(some 5), none, .call (.c (.fn (.func 29) [] [])) [(.t 4)]⟩,
    ⟨(some 6), none, .un .not (.t 5)⟩])
  (.cond (.t 6)
   (.seq (.ops [⟨(some 2), none, .move (.c (.sl true .full 0 []))⟩,
     ⟨(some 3), none, .move (.c (.sc (.int .i64 (24))))⟩])
   (.ret))
   (.skip)))
  (.seq (.ops [⟨(some 7), none, .load (some 6) (.t 1)⟩,
    ⟨(some 8), none, .call (.c (.fn (.func 96) [] [])) [(.t 7)]⟩,
    ⟨(some 2), none, .move (.t 8)⟩,
    ⟨(some 3), none, .move (.c (.sc (.int .i64 (0))))⟩])
  (.ret))),
  [.t 2, .t 3]⟩
theorem ok43 : EntryOk Tryz.prog 43 af43 := ⟨Tryz.f43, _, Tryz.func43, by decide, rfl, by kernel_rfl, by kernel_rfl, rfl⟩
/-- hemiola/tempo.New$1 -/
noncomputable def af47 : AF := ⟨15, .seq (.ops [⟨(some 2), none, .box (.t 0)⟩,
    ⟨(some 3), none, .move (.c (.sc (.bool false)))⟩])
  (.seq (.ops [⟨(some 4), none, .faddr 0 (.t 2)⟩,
    ⟨(some 5), none, .load none (.t 4)⟩,
    ⟨(some 6), none, .bin .lss (.t 5) (.c (.sc (.int .i64 (0))))⟩,
    ⟨(some 7), none, .move (.t 6)⟩,
    ⟨(some 8), (some (7, false)), .faddr 0 (.t 2)⟩,
    ⟨(some 9), (some (7, false)), .load none (.t 8)⟩,
    ⟨(some 10), (some (7, false)), .faddr 3 (.t 1)⟩,
    ⟨(some 11), (some (7, false)), .load none (.t 10)⟩,
    ⟨(some 12), (some (7, false)), .len (.t 11)⟩,
    ⟨(some 13), (some (7, false)), .bin .geq (.t 9) (.t 12)⟩,
    ⟨(some 14), none, .pick (.t 7) (.c (.sc (.bool true))) (.t 13)⟩,
    ⟨(some 3), none, .move (.t 14)⟩])
  (.ret)),
  [.t 3]⟩
theorem ok47 : EntryOk Tryz.prog 47 af47 := ⟨Tryz.f47, _, Tryz.func47, by decide, rfl, by kernel_rfl, by kernel_rfl, rfl⟩
/-- hemiola/tempo.value -/
noncomputable def af51 : AF := ⟨61, .seq (.ops [⟨(some 6), none, .move (.c (.sc (.int .i64 (0))))⟩])
  (.seq (.ops [⟨(some 12), none, .move (.t 0)⟩,
    ⟨(some 13), none, .move (.t 1)⟩,
    ⟨(some 14), none, .iaddrS 3 (.t 12) (.t 13)⟩,
    ⟨(some 15), none, .load (some 3) (.t 14)⟩,
    ⟨(some 7), none, .alloc [(.sc (.int .i64 (0))), (.sc (.int .i64 (0))), (.sc (.bool false))]⟩,
    ⟨none, none, .store 3 (.t 7) (.t 15)⟩])
  (.seq (.seq (.ops [⟨(some 16), none, .faddr 2 (.t 7)⟩,
    ⟨(some 17), none, .load none (.t 16)⟩,
    ⟨(some 18), none, .un .not (.t 17)⟩,
    ⟨(some 19), none, .move (.t 18)⟩,
    ⟨(some 20), (some (19, false)), .move (.t 1)⟩,
    ⟨(some 21), (some (19, false)), .bin .add (.t 20) (.c (.sc (.int .i64 (1))))⟩,
    ⟨(some 22), (some (19, false)), .move (.t 0)⟩,
    ⟨(some 23), (some (19, false)), .len (.t 22)⟩,
    ⟨(some 24), (some (19, false)), .bin .eql (.t 21) (.t 23)⟩,
    ⟨(some 25), none, .pick (.t 19) (.c (.sc (.bool true))) (.t 24)⟩])
  (.cond (.t 25)
   (.seq (.ops [⟨(some 26), none, .faddr 1 (.t 7)⟩,
     ⟨(some 27), none, .load none (.t 26)⟩,
     ⟨(some 6), none, .move (.t 27)⟩])
   (.ret))
   (.skip)))
  (.seq (.ops [⟨(some 28), none, .move (.t 0)⟩,
    ⟨(some 29), none, .move (.t 1)⟩,
    ⟨(some 30), none, .bin .add (.t 29) (.c (.sc (.int .i64 (1))))⟩,
    ⟨(some 31), none, .iaddrS 3 (.t 28) (.t 30)⟩,
    ⟨(some 32), none, .load (some 3) (.t 31)⟩,
    ⟨(some 8), none, .alloc [(.sc (.int .i64 (0))), (.sc (.int .i64 (0))), (.sc (.bool false))]⟩,
    ⟨none, none, .store 3 (.t 8) (.t 32)⟩])
  (.seq (.draw [⟨false, [8], [], ⟨(some 33), none, .faddr 1 (.t 8)⟩⟩,
    ⟨false, [33], [], ⟨(some 34), none, .load none (.t 33)⟩⟩,
    ⟨false, [7], [], ⟨(some 35), none, .faddr 1 (.t 7)⟩⟩,
    ⟨false, [35], [], ⟨(some 36), none, .load none (.t 35)⟩⟩,
    ⟨false, [34, 36], [], ⟨(some 37), none, .bin .sub (.t 34) (.t 36)⟩⟩,
    ⟨false, [2], [], ⟨(some 38), none, .move (.t 2)⟩⟩,
    ⟨false, [7], [], ⟨(some 39), none, .faddr 0 (.t 7)⟩⟩,
    ⟨false, [39], [], ⟨(some 40), none, .load none (.t 39)⟩⟩,
    ⟨false, [38, 40], [], ⟨(some 41), none, .bin .sub (.t 38) (.t 40)⟩⟩,
    ⟨false, [37, 41], [], ⟨(some 42), none, .bin .mul (.t 37) (.t 41)⟩⟩,
    ⟨false, [8], [], ⟨(some 43), none, .faddr 0 (.t 8)⟩⟩,
    ⟨false, [43], [], ⟨(some 44), none, .load none (.t 43)⟩⟩,
    ⟨false, [7], [], ⟨(some 45), none, .faddr 0 (.t 7)⟩⟩,
    ⟨false, [45], [], ⟨(some 46), none, .load none (.t 45)⟩⟩,
    ⟨false, [44, 46], [], ⟨(some 47), none, .bin .sub (.t 44) (.t 46)⟩⟩,
    ⟨false, [42], [], ⟨(some 9), none, .move (.t 42)⟩⟩]
    [⟨(some 10), none, .move (.t 47)⟩])
  (.seq (.ops [⟨(some 48), none, .move (.t 9)⟩,
    ⟨(some 49), none, .move (.t 10)⟩,
    ⟨(some 50), none, .bin .quo (.t 48) (.t 49)⟩,
    ⟨(some 11), none, .move (.t 50)⟩])
  (.seq (.seq (.ops [⟨(some 51), none, .move (.t 9)⟩,
    ⟨(some 52), none, .move (.t 10)⟩,
    ⟨(some 53), none, .bin .rem (.t 51) (.t 52)⟩,
    ⟨(some 54), none, .bin .lss (.t 53) (.c (.sc (.int .i64 (0))))⟩])
  (.cond (.t 54)
   (.ops [⟨(some 55), none, .move (.t 11)⟩,
     ⟨(some 56), none, .bin .sub (.t 55) (.c (.sc (.int .i64 (1))))⟩,
     ⟨(some 11), none, .move (.t 56)⟩])
   (.skip)))
  (.seq (.ops [⟨(some 57), none, .faddr 1 (.t 7)⟩,
    ⟨(some 58), none, .load none (.t 57)⟩,
    ⟨(some 59), none, .move (.t 11)⟩,
    ⟨(some 60), none, .bin .add (.t 58) (.t 59)⟩,
    ⟨(some 6), none, .move (.t 60)⟩])
  (.ret)))))))),
  [.t 6]⟩
theorem ok51 : EntryOk Tryz.prog 51 af51 := ⟨Tryz.f51, _, Tryz.func51, by decide, rfl, by kernel_rfl, by kernel_rfl, rfl⟩
/-- hemiola/voice.Lengths -/
noncomputable def af55 : AF := ⟨11, .seq (.ops [⟨(some 2), none, .box (.t 0)⟩,
    ⟨(some 4), none, .move (.c (.sl true .full 0 []))⟩,
    ⟨(some 5), none, .move (.c (.sc (.int .i64 (0))))⟩])
  (.seq (.ops [⟨(some 6), none, .load (some 2) (.t 2)⟩,
    ⟨(some 7), none, .move (.t 1)⟩,
    ⟨(some 8), none, .call (.c (.fn (.func 108) [] [])) [(.t 6), (.t 7)]⟩,
    ⟨(some 9), none, .extract 0 (.t 8)⟩,
    ⟨(some 10), none, .extract 1 (.t 8)⟩,
    ⟨(some 4), none, .move (.t 9)⟩,
    ⟨(some 5), none, .move (.t 10)⟩])
  (.ret)),
  [.t 4, .t 5]⟩
theorem ok55 : EntryOk Tryz.prog 55 af55 := ⟨Tryz.f55, _, Tryz.func55, by decide, rfl, by kernel_rfl, by kernel_rfl, rfl⟩
/-- (*hemiola/perform.player).time -/
noncomputable def af59 : AF := ⟨111, .seq (.ops [⟨(some 2), none, .box (.t 0)⟩,
    ⟨(some 3), none, .box (.t 1)⟩,
    ⟨(some 4), none, .move (.c (.sc (.int .i64 (0))))⟩])
  (.seq (.ops [⟨(some 14), none, .load none (.t 2)⟩,
    ⟨(some 15), none, .nilCheck (.t 14)⟩,
    ⟨(some 16), none, .faddr 6 (.t 15)⟩,
    ⟨(some 17), none, .load none (.t 16)⟩,
    ⟨(some 18), none, .len (.t 17)⟩,
    ⟨(some 5), none, .move (.t 18)⟩])
  (.seq (.seq (.draw [⟨false, [3], [], ⟨(some 19), none, .load none (.t 3)⟩⟩,
    ⟨false, [2], [], ⟨(some 20), none, .load none (.t 2)⟩⟩,
    ⟨false, [20], [], ⟨(some 21), none, .nilCheck (.t 20)⟩⟩,
    ⟨false, [21], [], ⟨(some 22), none, .faddr 7 (.t 21)⟩⟩,
    ⟨false, [22], [], ⟨(some 23), none, .load none (.t 22)⟩⟩,
    ⟨false, [5], [], ⟨(some 24), none, .move (.t 5)⟩⟩,
    ⟨false, [23, 24], [], ⟨(some 25), none, .iaddrS 1 (.t 23) (.t 24)⟩⟩,
    ⟨false, [25], [], ⟨(some 26), none, .load none (.t 25)⟩⟩]
    [⟨(some 27), none, .bin .lss (.t 19) (.t 26)⟩])
  (.cond (.t 27)
   (.seq (.ops [⟨(some 28), none, .move (.t 5)⟩,
     ⟨(some 29), none, .mkFn (.func 112) [] [(.t 2), (.t 3)]⟩,
     ⟨(some 30), none, .call (.c (.fn (.func 70) [] [])) [(.t 28), (.t 29)]⟩,
     ⟨(some 31), none, .bin .sub (.t 30) (.c (.sc (.int .i64 (1))))⟩,
     ⟨(some 6), none, .move (.t 31)⟩])
   (.seq (.ops [⟨(some 32), none, .load none (.t 2)⟩,
     ⟨(some 33), none, .nilCheck (.t 32)⟩,
     ⟨(some 34), none, .faddr 6 (.t 33)⟩,
     ⟨(some 35), none, .load none (.t 34)⟩,
     ⟨(some 36), none, .move (.t 6)⟩,
     ⟨(some 37), none, .iaddrS 2 (.t 35) (.t 36)⟩,
     ⟨(some 38), none, .faddr 0 (.t 37)⟩,
     ⟨(some 39), none, .load none (.t 38)⟩,
     ⟨(some 7), none, .move (.t 39)⟩])
   (.seq (.ops [⟨(some 41), none, .load none (.t 2)⟩,
     ⟨(some 42), none, .nilCheck (.t 41)⟩,
     ⟨(some 43), none, .faddr 0 (.t 42)⟩,
     ⟨(some 44), none, .faddr 3 (.t 43)⟩,
     ⟨(some 45), none, .load none (.t 44)⟩,
     ⟨(some 46), none, .move (.t 7)⟩,
     ⟨(some 47), none, .iaddrS 22 (.t 45) (.t 46)⟩,
     ⟨(some 48), none, .load (some 22) (.t 47)⟩,
     ⟨(some 49), none, .call (.c (.fn (.func 113) [] [])) [(.t 48)]⟩,
     ⟨(some 40), none, .move (.t 49)⟩,
     ⟨(some 50), none, .extract 0 (.t 40)⟩,
     ⟨(some 51), none, .extract 1 (.t 40)⟩,
     ⟨(some 8), none, .alloc [(.sc (.int .i64 (0))), (.sc (.int .i64 (0))), (.sc (.int .i64 (0))), (.sc (.int .i64 (0))), (.sc (.int .i64 (0))), (.sc (.int .i64 (0))), (.sc (.int .i64 (0))), (.sc (.int .i64 (0))), (.sc (.int .i64 (0))), (.sc (.int .i64 (0)))]⟩,
     ⟨none, none, .store 10 (.t 8) (.t 50)⟩,
     ⟨(some 9), none, .move (.t 51)⟩])
   (.seq (.draw [⟨false, [2], [], ⟨(some 53), none, .load none (.t 2)⟩⟩,
     ⟨false, [53], [], ⟨(some 54), none, .nilCheck (.t 53)⟩⟩,
     ⟨false, [54], [], ⟨(some 55), none, .faddr 0 (.t 54)⟩⟩,
     ⟨false, [55], [], ⟨(some 56), none, .faddr 3 (.t 55)⟩⟩,
     ⟨false, [56], [], ⟨(some 57), none, .load none (.t 56)⟩⟩,
     ⟨false, [7], [], ⟨(some 58), none, .move (.t 7)⟩⟩,
     ⟨false, [57, 58], [], ⟨(some 59), none, .iaddrS 22 (.t 57) (.t 58)⟩⟩,
     ⟨false, [59], [], ⟨(some 60), none, .faddr 2 (.t 59)⟩⟩,
     ⟨false, [60], [], ⟨(some 61), none, .load (some 8) (.t 60)⟩⟩,
     ⟨false, [8], [], ⟨(some 62), none, .faddr 8 (.t 8)⟩⟩,
     ⟨false, [62], [], ⟨(some 63), none, .load none (.t 62)⟩⟩,
     ⟨false, [3], [], ⟨(some 64), none, .load none (.t 3)⟩⟩,
     ⟨false, [2], [], ⟨(some 65), none, .load none (.t 2)⟩⟩,
     ⟨false, [65], [], ⟨(some 66), none, .nilCheck (.t 65)⟩⟩,
     ⟨false, [66], [], ⟨(some 67), none, .faddr 7 (.t 66)⟩⟩,
     ⟨false, [67], [], ⟨(some 68), none, .load none (.t 67)⟩⟩,
     ⟨false, [6], [], ⟨(some 69), none, .move (.t 6)⟩⟩,
     ⟨false, [68, 69], [], ⟨(some 70), none, .iaddrS 1 (.t 68) (.t 69)⟩⟩,
     ⟨false, [70], [], ⟨(some 71), none, .load none (.t 70)⟩⟩,
     ⟨false, [64, 71], [], ⟨(some 72), none, .bin .sub (.t 64) (.t 71)⟩⟩,
     ⟨false, [2], [], ⟨(some 73), none, .load none (.t 2)⟩⟩,
     ⟨false, [73], [], ⟨(some 74), none, .nilCheck (.t 73)⟩⟩,
     ⟨false, [74], [], ⟨(some 75), none, .faddr 8 (.t 74)⟩⟩,
     ⟨false, [75], [], ⟨(some 76), none, .load none (.t 75)⟩⟩,
     ⟨false, [7], [], ⟨(some 77), none, .move (.t 7)⟩⟩,
     ⟨false, [76, 77], [], ⟨(some 78), none, .iaddrS 1 (.t 76) (.t 77)⟩⟩,
     ⟨false, [78], [], ⟨(some 79), none, .load none (.t 78)⟩⟩,
     ⟨true, [61, 63, 72, 79], [], ⟨(some 80), none, .call (.c (.fn (.func 114) [] [])) [(.t 61), (.t 63), (.t 72), (.t 79)]⟩⟩,
     ⟨true, [80], [], ⟨(some 52), none, .move (.t 80)⟩⟩,
     ⟨true, [52], [], ⟨(some 81), none, .extract 0 (.t 52)⟩⟩,
     ⟨true, [52], [], ⟨(some 82), none, .extract 1 (.t 52)⟩⟩,
     ⟨true, [81], [], ⟨(some 10), none, .move (.t 81)⟩⟩]
     [⟨(some 11), none, .move (.t 82)⟩])
   (.draw [⟨false, [2], [], ⟨(some 83), none, .load none (.t 2)⟩⟩,
     ⟨false, [83], [], ⟨(some 84), none, .nilCheck (.t 83)⟩⟩,
     ⟨false, [84], [], ⟨(some 85), none, .faddr 7 (.t 84)⟩⟩,
     ⟨false, [85], [], ⟨(some 86), none, .load none (.t 85)⟩⟩,
     ⟨false, [6], [], ⟨(some 87), none, .move (.t 6)⟩⟩,
     ⟨false, [86, 87], [], ⟨(some 88), none, .iaddrS 1 (.t 86) (.t 87)⟩⟩,
     ⟨false, [88], [], ⟨(some 89), none, .load none (.t 88)⟩⟩,
     ⟨false, [10], [], ⟨(some 90), none, .move (.t 10)⟩⟩,
     ⟨false, [89, 90], [], ⟨(some 91), none, .bin .add (.t 89) (.t 90)⟩⟩,
     ⟨false, [2], [], ⟨(some 92), none, .load none (.t 2)⟩⟩,
     ⟨false, [92], [], ⟨(some 93), none, .nilCheck (.t 92)⟩⟩,
     ⟨false, [93], [], ⟨(some 94), none, .faddr 7 (.t 93)⟩⟩,
     ⟨false, [94], [], ⟨(some 95), none, .load none (.t 94)⟩⟩,
     ⟨false, [6], [], ⟨(some 96), none, .move (.t 6)⟩⟩,
     ⟨false, [96], [], ⟨(some 97), none, .bin .add (.t 96) (.c (.sc (.int .i64 (1))))⟩⟩,
     ⟨false, [95, 97], [], ⟨(some 98), none, .iaddrS 1 (.t 95) (.t 97)⟩⟩,
     ⟨false, [98], [], ⟨(some 99), none, .load none (.t 98)⟩⟩]
     [⟨(some 100), none, .mm false [(.t 91), (.t 99)]⟩,
     ⟨none, none, .store 1 (.t 3) (.t 100)⟩])))))
   (.skip)))
  (.seq (.draw [⟨false, [2], [], ⟨(some 102), none, .load none (.t 2)⟩⟩,
    ⟨false, [102], [], ⟨(some 103), none, .nilCheck (.t 102)⟩⟩,
    ⟨false, [103], [], ⟨(some 104), none, .faddr 9 (.t 103)⟩⟩,
    ⟨false, [104], [], ⟨(some 105), none, .load none (.t 104)⟩⟩,
    ⟨false, [3], [], ⟨(some 106), none, .load none (.t 3)⟩⟩,
    ⟨true, [105, 106], [], ⟨(some 107), none, .call (.c (.fn (.func 115) [] [])) [(.t 105), (.t 106)]⟩⟩,
    ⟨true, [107], [], ⟨(some 101), none, .move (.t 107)⟩⟩,
    ⟨true, [101], [], ⟨(some 108), none, .extract 0 (.t 101)⟩⟩,
    ⟨true, [101], [], ⟨(some 109), none, .extract 1 (.t 101)⟩⟩,
    ⟨true, [108], [], ⟨(some 12), none, .move (.t 108)⟩⟩]
    [⟨(some 13), none, .move (.t 109)⟩])
  (.seq (.ops [⟨(some 110), none, .move (.t 12)⟩,
    ⟨(some 4), none, .move (.t 110)⟩])
  (.ret))))),
  [.t 4]⟩
theorem ok59 : EntryOk Tryz.prog 59 af59 := ⟨Tryz.f59, _, Tryz.func59, by decide, rfl, by kernel_rfl, by kernel_rfl, rfl⟩
/-- (*hemiola/perform.player).slurred -/
noncomputable def af63 : AF := ⟨12, .seq (.ops [⟨(some 2), none, .box (.t 0)⟩,
    ⟨(some 3), none, .box (.t 1)⟩,
    ⟨(some 4), none, .move (.c (.sc (.bool false)))⟩])
  (.seq (.ops [⟨(some 5), none, .load none (.t 2)⟩,
    ⟨(some 6), none, .nilCheck (.t 5)⟩,
    ⟨(some 7), none, .faddr 0 (.t 6)⟩,
    ⟨(some 8), none, .faddr 4 (.t 7)⟩,
    ⟨(some 9), none, .load none (.t 8)⟩,
    ⟨(some 10), none, .mkFn (.func 124) [] [(.t 2), (.t 3)]⟩,
    ⟨(some 11), none, .call (.c (.fn (.func 123) [] [])) [(.t 9), (.t 10)]⟩,
    ⟨(some 4), none, .move (.t 11)⟩])
  (.ret)),
  [.t 4]⟩
theorem ok63 : EntryOk Tryz.prog 63 af63 := ⟨Tryz.f63, _, Tryz.func63, by decide, rfl, by kernel_rfl, by kernel_rfl, rfl⟩
/-- hemiola/perform.levels$3 -/
noncomputable def af69 : AF := ⟨94, .seq (.ops [⟨(some 3), none, .box (.t 0)⟩,
    ⟨(some 4), none, .move (.c (.sc (.int .i64 (0))))⟩])
  (.seq (.ops [⟨(some 5), none, .move (.c (.sc (.int .i64 (76))))⟩,
    ⟨(some 6), none, .move (.c (.sc (.int .i64 (-1))))⟩])
  (.seq (.seq (.ops [⟨(some 13), none, .load none (.t 1)⟩,
    ⟨(some 14), none, .len (.t 13)⟩,
    ⟨(some 15), none, .mkFn (.func 71) [] [(.t 1), (.t 3)]⟩,
    ⟨(some 16), none, .call (.c (.fn (.func 70) [] [])) [(.t 14), (.t 15)]⟩,
    ⟨(some 7), none, .move (.t 16)⟩])
  (.seq (.ops [⟨(some 17), none, .move (.t 7)⟩,
    ⟨(some 18), none, .bin .gtr (.t 17) (.c (.sc (.int .i64 (0))))⟩])
  (.cond (.t 18)
   (.seq (.ops [⟨(some 20), none, .load none (.t 1)⟩,
     ⟨(some 21), none, .move (.t 7)⟩,
     ⟨(some 22), none, .bin .sub (.t 21) (.c (.sc (.int .i64 (1))))⟩,
     ⟨(some 23), none, .iaddrS 18 (.t 20) (.t 22)⟩,
     ⟨(some 24), none, .faddr 0 (.t 23)⟩,
     ⟨(some 25), none, .faddr 9 (.t 24)⟩,
     ⟨(some 26), none, .load none (.t 25)⟩,
     ⟨(some 27), none, .call (.c (.fn (.func 64) [] [])) [(.t 26)]⟩,
     ⟨(some 19), none, .move (.t 27)⟩,
     ⟨(some 28), none, .extract 0 (.t 19)⟩,
     ⟨(some 29), none, .extract 1 (.t 19)⟩,
     ⟨(some 5), none, .move (.t 28)⟩])
   (.ops [⟨(some 30), none, .load none (.t 1)⟩,
     ⟨(some 31), none, .move (.t 7)⟩,
     ⟨(some 32), none, .bin .sub (.t 31) (.c (.sc (.int .i64 (1))))⟩,
     ⟨(some 33), none, .iaddrS 18 (.t 30) (.t 32)⟩,
     ⟨(some 34), none, .faddr 16 (.t 33)⟩,
     ⟨(some 35), none, .load none (.t 34)⟩,
     ⟨(some 6), none, .move (.t 35)⟩]))
   (.skip))))
  (.seq (.seq (.ops [⟨(some 36), none, .load none (.t 2)⟩,
    ⟨(some 37), none, .len (.t 36)⟩,
    ⟨(some 38), none, .move (.c (.sc (.int .i64 (0))))⟩])
  (.block 0 (.loop (.seq (.ops [⟨(some 39), none, .bin .lss (.t 38) (.t 37)⟩])
    (.seq (.cond (.t 39)
     (.skip)
     (.exit 0))
    (.seq (.block 1 (.seq (.ops [⟨(some 40), none, .iaddrS 16 (.t 36) (.t 38)⟩,
       ⟨(some 41), none, .load (some 16) (.t 40)⟩,
       ⟨(some 9), none, .alloc [(.sc (.int .i64 (0))), (.sc (.int .i64 (0))), (.sc (.bool false)), (.sc (.int .i64 (0))), (.sc (.int .i64 (0))), (.sc (.int .i64 (0))), (.sc (.int .i64 (0))), (.sc (.int .i64 (0))), (.sl true .full 0 []), (.sl true .full 0 []), (.sc (.int .i64 (0))), (.sc (.int .i64 (0))), (.sc (.int .i64 (0))), (.sl true .full 0 []), (.sc (.int .i64 (0))), (.sc (.int .i64 (0)))]⟩,
       ⟨none, none, .store 16 (.t 9) (.t 41)⟩])
     (.seq (.seq (.ops [⟨(some 42), none, .faddr 0 (.t 9)⟩,
       ⟨(some 43), none, .load none (.t 42)⟩,
       ⟨(some 44), none, .move (.t 6)⟩,
       ⟨(some 45), none, .bin .lss (.t 43) (.t 44)⟩,
       ⟨(some 46), none, .move (.t 45)⟩,
       ⟨(some 47), (some (46, false)), .faddr 0 (.t 9)⟩,
       ⟨(some 48), (some (46, false)), .load none (.t 47)⟩,
       ⟨(some 49), (some (46, false)), .load none (.t 3)⟩,
       ⟨(some 50), (some (46, false)), .bin .gtr (.t 48) (.t 49)⟩,
       ⟨(some 51), none, .pick (.t 46) (.c (.sc (.bool true))) (.t 50)⟩])
     (.cond (.t 51)
      (.exit 1)
      (.skip)))
     (.seq (.ops [⟨(some 53), none, .faddr 3 (.t 9)⟩,
       ⟨(some 54), none, .faddr 9 (.t 53)⟩,
       ⟨(some 55), none, .load none (.t 54)⟩,
       ⟨(some 56), none, .call (.c (.fn (.func 64) [] [])) [(.t 55)]⟩,
       ⟨(some 52), none, .move (.t 56)⟩,
       ⟨(some 57), none, .extract 0 (.t 52)⟩,
       ⟨(some 58), none, .extract 1 (.t 52)⟩,
       ⟨(some 10), none, .move (.t 57)⟩,
       ⟨(some 11), none, .move (.t 58)⟩])
     (.seq (.seq (.ops [⟨(some 59), none, .move (.t 11)⟩,
       ⟨(some 60), none, .un .not (.t 59)⟩])
     (.cond (.t 60)
      (.seq (.ops [⟨(some 12), none, .move (.c (.sc (.int .i64 (14))))⟩])
      (.seq (.seq (.ops [⟨(some 61), none, .faddr 2 (.t 9)⟩,
        ⟨(some 62), none, .load none (.t 61)⟩,
        ⟨(some 63), none, .un .not (.t 62)⟩])
      (.cond (.t 63)
       (.ops [⟨(some 64), none, .move (.t 12)⟩,
         ⟨(some 65), none, .un .neg (.t 64)⟩,
         ⟨(some 12), none, .move (.t 65)⟩])
       (.skip)))
      (.ops [⟨(some 66), none, .move (.t 5)⟩,
        ⟨(some 67), none, .move (.t 12)⟩,
        ⟨(some 68), none, .bin .add (.t 66) (.t 67)⟩,
        ⟨(some 69), none, .mm true [(.t 68), (.c (.sc (.int .i64 (1))))]⟩,
        ⟨(some 70), none, .mm false [(.t 69), (.c (.sc (.int .i64 (127))))]⟩,
        ⟨(some 10), none, .move (.t 70)⟩])))
      (.skip)))
     (.seq (.ops [⟨(some 71), none, .load none (.t 3)⟩,
       ⟨(some 72), none, .faddr 1 (.t 9)⟩,
       ⟨(some 73), none, .load none (.t 72)⟩,
       ⟨(some 74), none, .bin .geq (.t 71) (.t 73)⟩])
     (.cond (.t 74)
      (.ops [⟨(some 75), none, .move (.t 10)⟩,
        ⟨(some 5), none, .move (.t 75)⟩])
      (.ops [⟨(some 76), none, .move (.t 5)⟩,
        ⟨(some 77), none, .move (.t 10)⟩,
        ⟨(some 78), none, .move (.t 5)⟩,
        ⟨(some 79), none, .bin .sub (.t 77) (.t 78)⟩,
        ⟨(some 80), none, .load none (.t 3)⟩,
        ⟨(some 81), none, .faddr 0 (.t 9)⟩,
        ⟨(some 82), none, .load none (.t 81)⟩,
        ⟨(some 83), none, .bin .sub (.t 80) (.t 82)⟩,
        ⟨(some 84), none, .bin .mul (.t 79) (.t 83)⟩,
        ⟨(some 85), none, .faddr 1 (.t 9)⟩,
        ⟨(some 86), none, .load none (.t 85)⟩,
        ⟨(some 87), none, .faddr 0 (.t 9)⟩,
        ⟨(some 88), none, .load none (.t 87)⟩,
        ⟨(some 89), none, .bin .sub (.t 86) (.t 88)⟩,
        ⟨(some 90), none, .call (.c (.fn (.func 72) [] [])) [(.t 84), (.t 89)]⟩,
        ⟨(some 91), none, .bin .add (.t 76) (.t 90)⟩,
        ⟨(some 5), none, .move (.t 91)⟩]))))))))
    (.ops [⟨(some 92), none, .bin .add (.t 38) (.c (.sc (.int .i64 (1))))⟩,
      ⟨(some 38), none, .move (.t 92)⟩])))))))
  (.seq (.ops [⟨(some 93), none, .move (.t 5)⟩,
    ⟨(some 4), none, .move (.t 93)⟩])
  (.ret))))),
  [.t 4]⟩
theorem ok69 : EntryOk Tryz.prog 69 af69 := ⟨Tryz.f69, _, Tryz.func69, by decide, rfl, by kernel_rfl, by kernel_rfl, rfl⟩
/-- (*hemiola/check.checker).limits -/
noncomputable def af75 : AF := ⟨159, .seq (.seq (.ops [⟨(some 11), none, .move (.t 0)⟩,
    ⟨(some 12), none, .nilCheck (.t 11)⟩,
    ⟨(some 13), none, .faddr 0 (.t 12)⟩,
    ⟨(some 14), none, .faddr 2 (.t 13)⟩,
    ⟨(some 15), none, .load none (.t 14)⟩,
    ⟨(some 16), none, .len (.t 15)⟩,
    ⟨(some 17), none, .move (.c (.sc (.int .i64 (0))))⟩])
  (.block 0 (.loop (.seq (.ops [⟨(some 18), none, .bin .lss (.t 17) (.t 16)⟩])
    (.seq (.cond (.t 18)
     (.skip)
     (.exit 0))
    (.seq (.block 1 (.seq (.ops [⟨(some 19), none, .iaddrS 6 (.t 15) (.t 17)⟩,
       ⟨(some 20), none, .load (some 6) (.t 19)⟩,
       ⟨(some 3), none, .alloc [(.sc (.int .i64 (0))), (.sc (.int .i64 (0))), (.sc (.string ⟨#[]⟩)), (.sc (.int .i64 (0))), (.sc (.int .i64 (0))), (.sl true .full 0 [])]⟩,
       ⟨none, none, .store 6 (.t 3) (.t 20)⟩])
     (.draw [⟨false, [0], [], ⟨(some 21), none, .move (.t 0)⟩⟩,
       ⟨false, [3], [], ⟨(some 22), none, .faddr 2 (.t 3)⟩⟩,
       ⟨false, [22], [], ⟨(some 23), none, .load none (.t 22)⟩⟩,
       ⟨true, [23], [], ⟨(some 24), none, .call (.c (.fn (.func 130) [] [])) [(.t 23)]⟩⟩,
       ⟨false, [24], [], ⟨(some 25), none, .un .not (.t 24)⟩⟩,
       ⟨false, [25], [], ⟨(some 26), none, .move (.t 25)⟩⟩,
       ⟨false, [3, 26], [], ⟨(some 27), (some (26, false)), .faddr 5 (.t 3)⟩⟩,
       ⟨false, [27, 26], [], ⟨(some 28), (some (26, false)), .load none (.t 27)⟩⟩,
       ⟨false, [28, 26], [], ⟨(some 29), (some (26, false)), .len (.t 28)⟩⟩,
       ⟨true, [29, 26], [], ⟨(some 30), (some (26, false)), .call (.c (.fn (.func 131) [] [])) [(.t 29), (.c (.sc (.int .i64 (1)))), (.c (.sc (.int .i64 (4))))]⟩⟩,
       ⟨false, [30, 26], [], ⟨(some 31), (some (26, false)), .un .not (.t 30)⟩⟩,
       ⟨false, [26, 31], [], ⟨(some 32), none, .pick (.t 26) (.c (.sc (.bool true))) (.t 31)⟩⟩,
       ⟨false, [32], [], ⟨(some 33), none, .move (.t 32)⟩⟩,
       ⟨false, [3, 33], [], ⟨(some 34), (some (33, false)), .faddr 3 (.t 3)⟩⟩,
       ⟨false, [34, 33], [], ⟨(some 35), (some (33, false)), .load (some 2) (.t 34)⟩⟩,
       ⟨true, [35, 33], [], ⟨(some 36), (some (33, false)), .call (.c (.fn (.func 132) [] [])) [(.t 35)]⟩⟩,
       ⟨false, [36, 33], [], ⟨(some 37), (some (33, false)), .bin .neq (.t 36) (.c (.sc (.int .i64 (0))))⟩⟩,
       ⟨false, [33, 37], [], ⟨(some 38), none, .pick (.t 33) (.c (.sc (.bool true))) (.t 37)⟩⟩,
       ⟨false, [3], [], ⟨(some 39), none, .faddr 0 (.t 3)⟩⟩,
       ⟨false, [39], [3, 9, 15], ⟨(some 40), none, .load (some 2) (.t 39)⟩⟩]
       [⟨(some 41), none, .call (.c (.fn (.func 129) [] [])) [(.t 21), (.t 38), (.t 40)]⟩])))
    (.ops [⟨(some 42), none, .bin .add (.t 17) (.c (.sc (.int .i64 (1))))⟩,
      ⟨(some 17), none, .move (.t 42)⟩])))))))
  (.seq (.seq (.ops [⟨(some 43), none, .move (.t 0)⟩,
    ⟨(some 44), none, .nilCheck (.t 43)⟩,
    ⟨(some 45), none, .faddr 0 (.t 44)⟩,
    ⟨(some 46), none, .faddr 3 (.t 45)⟩,
    ⟨(some 47), none, .load none (.t 46)⟩,
    ⟨(some 48), none, .len (.t 47)⟩,
    ⟨(some 49), none, .move (.c (.sc (.int .i64 (0))))⟩])
  (.block 2 (.loop (.seq (.ops [⟨(some 50), none, .bin .lss (.t 49) (.t 48)⟩])
    (.seq (.cond (.t 50)
     (.skip)
     (.exit 2))
    (.seq (.block 3 (.seq (.ops [⟨(some 51), none, .iaddrS 22 (.t 47) (.t 49)⟩,
       ⟨(some 52), none, .load (some 22) (.t 51)⟩,
       ⟨(some 5), none, .alloc [(.sc (.int .i64 (0))), (.sc (.int .i64 (0))), (.sc (.int .i64 (0))), (.sc (.int .i64 (0))), (.sc (.int .i64 (0))), (.sc (.int .i64 (0))), (.sc (.int .i64 (0))), (.sc (.int .i64 (0))), (.sc (.int .i64 (0))), (.sc (.int .i64 (0))), (.sc (.int .i64 (0))), (.sc (.int .i64 (0))), (.sc (.bool false)), (.sc (.int .i64 (0))), (.sc (.int .i64 (0))), (.sc (.int .i64 (0))), (.sc (.int .i64 (0))), (.sc (.int .i64 (0))), (.sc (.int .i64 (0))), (.sc (.string ⟨#[]⟩)), (.sl true .full 0 []), (.sl true .full 0 [])]⟩,
       ⟨none, none, .store 22 (.t 5) (.t 52)⟩])
     (.seq (.ops [⟨(some 53), none, .faddr 19 (.t 5)⟩,
       ⟨(some 54), none, .load none (.t 53)⟩,
       ⟨(some 55), none, .call (.c (.fn (.func 130) [] [])) [(.t 54)]⟩,
       ⟨(some 56), none, .un .not (.t 55)⟩,
       ⟨(some 57), none, .move (.t 56)⟩,
       ⟨(some 58), (some (57, false)), .faddr 20 (.t 5)⟩,
       ⟨(some 59), (some (57, false)), .load none (.t 58)⟩,
       ⟨(some 60), (some (57, false)), .len (.t 59)⟩,
       ⟨(some 61), (some (57, false)), .bin .gtr (.t 60) (.c (.sc (.int .i64 (64))))⟩,
       ⟨(some 62), none, .pick (.t 57) (.c (.sc (.bool true))) (.t 61)⟩,
       ⟨(some 6), none, .move (.t 62)⟩])
     (.seq (.seq (.ops [⟨(some 63), none, .faddr 21 (.t 5)⟩,
       ⟨(some 64), none, .load none (.t 63)⟩,
       ⟨(some 65), none, .len (.t 64)⟩,
       ⟨(some 66), none, .move (.c (.sc (.int .i64 (0))))⟩])
     (.block 4 (.loop (.seq (.ops [⟨(some 67), none, .bin .lss (.t 66) (.t 65)⟩])
       (.seq (.cond (.t 67)
        (.skip)
        (.exit 4))
       (.seq (.block 5 (.seq (.ops [⟨(some 68), none, .iaddrS 2 (.t 64) (.t 66)⟩,
          ⟨(some 69), none, .load (some 2) (.t 68)⟩,
          ⟨(some 8), none, .alloc [(.sl true .full 0 []), (.sl true .full 0 [])]⟩,
          ⟨none, none, .store 2 (.t 8) (.t 69)⟩])
        (.seq (.ops [⟨(some 70), none, .move (.t 6)⟩,
          ⟨(some 71), none, .move (.t 70)⟩,
          ⟨(some 72), (some (71, false)), .faddr 0 (.t 8)⟩,
          ⟨(some 73), (some (71, false)), .load none (.t 72)⟩,
          ⟨(some 74), (some (71, false)), .len (.t 73)⟩,
          ⟨(some 75), (some (71, false)), .bin .gtr (.t 74) (.c (.sc (.int .i64 (64))))⟩,
          ⟨(some 76), none, .pick (.t 71) (.c (.sc (.bool true))) (.t 75)⟩,
          ⟨(some 77), none, .move (.t 76)⟩,
          ⟨(some 78), (some (77, false)), .faddr 1 (.t 8)⟩,
          ⟨(some 79), (some (77, false)), .load none (.t 78)⟩,
          ⟨(some 80), (some (77, false)), .len (.t 79)⟩,
          ⟨(some 81), (some (77, false)), .bin .gtr (.t 80) (.c (.sc (.int .i64 (2))))⟩,
          ⟨(some 82), none, .pick (.t 77) (.c (.sc (.bool true))) (.t 81)⟩,
          ⟨(some 6), none, .move (.t 82)⟩])
        (.seq (.ops [⟨(some 83), none, .faddr 1 (.t 8)⟩,
          ⟨(some 84), none, .load none (.t 83)⟩,
          ⟨(some 85), none, .len (.t 84)⟩,
          ⟨(some 86), none, .move (.c (.sc (.int .i64 (0))))⟩])
        (.block 6 (.loop (.seq (.ops [⟨(some 87), none, .bin .lss (.t 86) (.t 85)⟩])
          (.seq (.cond (.t 87)
           (.skip)
           (.exit 6))
          (.seq (.block 7 (.seq (.ops [⟨(some 88), none, .iaddrS 2 (.t 84) (.t 86)⟩,
             ⟨(some 89), none, .load (some 2) (.t 88)⟩,
             ⟨(some 10), none, .alloc [(.sl true .full 0 []), (.sl true .full 0 [])]⟩,
             ⟨none, none, .store 2 (.t 10) (.t 89)⟩])
           (.ops [⟨(some 90), none, .move (.t 6)⟩,
             ⟨(some 91), none, .move (.t 90)⟩,
             ⟨(some 92), (some (91, false)), .faddr 0 (.t 10)⟩,
             ⟨(some 93), (some (91, false)), .load none (.t 92)⟩,
             ⟨(some 94), (some (91, false)), .len (.t 93)⟩,
             ⟨(some 95), (some (91, false)), .bin .gtr (.t 94) (.c (.sc (.int .i64 (128))))⟩,
             ⟨(some 96), none, .pick (.t 91) (.c (.sc (.bool true))) (.t 95)⟩,
             ⟨(some 97), none, .move (.t 96)⟩,
             ⟨(some 98), (some (97, false)), .faddr 1 (.t 10)⟩,
             ⟨(some 99), (some (97, false)), .load none (.t 98)⟩,
             ⟨(some 100), (some (97, false)), .len (.t 99)⟩,
             ⟨(some 101), (some (97, false)), .bin .gtr (.t 100) (.c (.sc (.int .i64 (16))))⟩,
             ⟨(some 102), none, .pick (.t 97) (.c (.sc (.bool true))) (.t 101)⟩,
             ⟨(some 6), none, .move (.t 102)⟩])))
          (.ops [⟨(some 103), none, .bin .add (.t 86) (.c (.sc (.int .i64 (1))))⟩,
            ⟨(some 86), none, .move (.t 103)⟩]))))))))))
       (.ops [⟨(some 104), none, .bin .add (.t 66) (.c (.sc (.int .i64 (1))))⟩,
         ⟨(some 66), none, .move (.t 104)⟩])))))))
     (.ops [⟨(some 105), none, .move (.t 0)⟩,
       ⟨(some 106), none, .move (.t 6)⟩,
       ⟨(some 107), none, .faddr 0 (.t 5)⟩,
       ⟨(some 108), none, .load (some 2) (.t 107)⟩,
       ⟨(some 109), none, .call (.c (.fn (.func 129) [] [])) [(.t 105), (.t 106), (.t 108)]⟩])))))
    (.ops [⟨(some 110), none, .bin .add (.t 49) (.c (.sc (.int .i64 (1))))⟩,
      ⟨(some 49), none, .move (.t 110)⟩])))))))
  (.ops [⟨(some 111), none, .move (.t 0)⟩,
    ⟨(some 112), none, .move (.t 0)⟩,
    ⟨(some 113), none, .nilCheck (.t 112)⟩,
    ⟨(some 114), none, .faddr 0 (.t 113)⟩,
    ⟨(some 115), none, .faddr 0 (.t 114)⟩,
    ⟨(some 116), none, .load none (.t 115)⟩,
    ⟨(some 117), none, .call (.c (.fn (.func 130) [] [])) [(.t 116)]⟩,
    ⟨(some 118), none, .un .not (.t 117)⟩,
    ⟨(some 119), none, .move (.t 118)⟩,
    ⟨(some 120), (some (119, false)), .move (.t 0)⟩,
    ⟨(some 121), (some (119, false)), .nilCheck (.t 120)⟩,
    ⟨(some 122), (some (119, false)), .faddr 0 (.t 121)⟩,
    ⟨(some 123), (some (119, false)), .faddr 2 (.t 122)⟩,
    ⟨(some 124), (some (119, false)), .load none (.t 123)⟩,
    ⟨(some 125), (some (119, false)), .len (.t 124)⟩,
    ⟨(some 126), (some (119, false)), .call (.c (.fn (.func 131) [] [])) [(.t 125), (.c (.sc (.int .i64 (1)))), (.c (.sc (.int .i64 (32))))]⟩,
    ⟨(some 127), (some (119, false)), .un .not (.t 126)⟩,
    ⟨(some 128), none, .pick (.t 119) (.c (.sc (.bool true))) (.t 127)⟩,
    ⟨(some 129), none, .move (.t 128)⟩,
    ⟨(some 130), (some (129, false)), .move (.t 0)⟩,
    ⟨(some 131), (some (129, false)), .nilCheck (.t 130)⟩,
    ⟨(some 132), (some (129, false)), .faddr 0 (.t 131)⟩,
    ⟨(some 133), (some (129, false)), .faddr 3 (.t 132)⟩,
    ⟨(some 134), (some (129, false)), .load none (.t 133)⟩,
    ⟨(some 135), (some (129, false)), .len (.t 134)⟩,
    ⟨(some 136), (some (129, false)), .call (.c (.fn (.func 131) [] [])) [(.t 135), (.c (.sc (.int .i64 (1)))), (.c (.sc (.int .i64 (1024))))]⟩,
    ⟨(some 137), (some (129, false)), .un .not (.t 136)⟩,
    ⟨(some 138), none, .pick (.t 129) (.c (.sc (.bool true))) (.t 137)⟩,
    ⟨(some 139), none, .move (.t 138)⟩,
    ⟨(some 140), (some (139, false)), .move (.t 0)⟩,
    ⟨(some 141), (some (139, false)), .nilCheck (.t 140)⟩,
    ⟨(some 142), (some (139, false)), .faddr 0 (.t 141)⟩,
    ⟨(some 143), (some (139, false)), .faddr 4 (.t 142)⟩,
    ⟨(some 144), (some (139, false)), .load none (.t 143)⟩,
    ⟨(some 145), (some (139, false)), .len (.t 144)⟩,
    ⟨(some 146), (some (139, false)), .bin .gtr (.t 145) (.c (.sc (.int .i64 (4096))))⟩,
    ⟨(some 147), none, .pick (.t 139) (.c (.sc (.bool true))) (.t 146)⟩,
    ⟨(some 148), none, .move (.t 147)⟩,
    ⟨(some 149), (some (148, false)), .move (.t 0)⟩,
    ⟨(some 150), (some (148, false)), .nilCheck (.t 149)⟩,
    ⟨(some 151), (some (148, false)), .faddr 0 (.t 150)⟩,
    ⟨(some 152), (some (148, false)), .faddr 5 (.t 151)⟩,
    ⟨(some 153), (some (148, false)), .load none (.t 152)⟩,
    ⟨(some 154), (some (148, false)), .len (.t 153)⟩,
    ⟨(some 155), (some (148, false)), .bin .gtr (.t 154) (.c (.sc (.int .i64 (100))))⟩,
    ⟨(some 156), none, .pick (.t 148) (.c (.sc (.bool true))) (.t 155)⟩,
    ⟨(some 157), none, .build [(.sc (.int .i64 (0))), (.sc (.int .i64 (0)))] []⟩,
    ⟨(some 158), none, .call (.c (.fn (.func 129) [] [])) [(.t 111), (.t 156), (.t 157)]⟩])),
  []⟩
theorem ok75 : EntryOk Tryz.prog 75 af75 := ⟨Tryz.f75, _, Tryz.func75, by decide, rfl, by kernel_rfl, by kernel_rfl, rfl⟩
/-- (*hemiola/check.checker).metres -/
noncomputable def af79 : AF := ⟨5, .seq (.ops [⟨(some 1), none, .box (.t 0)⟩])
  (.ops [⟨(some 2), none, .load none (.t 1)⟩,
    ⟨(some 3), none, .mkFn (.func 140) [] [(.t 1)]⟩,
    ⟨(some 4), none, .call (.c (.fn (.func 136) [] [])) [(.t 2), (.t 3)]⟩]),
  []⟩
theorem ok79 : EntryOk Tryz.prog 79 af79 := ⟨Tryz.f79, _, Tryz.func79, by decide, rfl, by kernel_rfl, by kernel_rfl, rfl⟩
/-- (*hemiola/check.checker).pitches -/
noncomputable def af83 : AF := ⟨5, .seq (.ops [⟨(some 1), none, .box (.t 0)⟩])
  (.ops [⟨(some 2), none, .load none (.t 1)⟩,
    ⟨(some 3), none, .mkFn (.func 147) [] [(.t 1)]⟩,
    ⟨(some 4), none, .call (.c (.fn (.func 144) [] [])) [(.t 2), (.t 3)]⟩]),
  []⟩
theorem ok83 : EntryOk Tryz.prog 83 af83 := ⟨Tryz.f83, _, Tryz.func83, by decide, rfl, by kernel_rfl, by kernel_rfl, rfl⟩
/-- (*hemiola/check.checker).nesting -/
noncomputable def af87 : AF := ⟨62, .seq (.ops [⟨(some 9), none, .move (.t 0)⟩,
    ⟨(some 10), none, .call (.c (.fn (.func 160) [] [])) [(.t 9)]⟩,
    ⟨(some 8), none, .move (.t 10)⟩,
    ⟨(some 11), none, .extract 0 (.t 8)⟩,
    ⟨(some 12), none, .extract 1 (.t 8)⟩,
    ⟨(some 2), none, .move (.t 11)⟩,
    ⟨(some 3), none, .move (.t 12)⟩])
  (.seq (.ops [⟨(some 13), none, .move (.t 0)⟩,
    ⟨(some 14), none, .nilCheck (.t 13)⟩,
    ⟨(some 15), none, .faddr 0 (.t 14)⟩,
    ⟨(some 16), none, .faddr 4 (.t 15)⟩,
    ⟨(some 17), none, .load none (.t 16)⟩,
    ⟨(some 18), none, .len (.t 17)⟩,
    ⟨(some 19), none, .move (.c (.sc (.int .i64 (0))))⟩])
  (.block 0 (.loop (.seq (.ops [⟨(some 20), none, .bin .lss (.t 19) (.t 18)⟩])
    (.seq (.cond (.t 20)
     (.skip)
     (.exit 0))
    (.seq (.block 1 (.seq (.ops [⟨(some 21), none, .move (.t 19)⟩,
       ⟨(some 22), none, .iaddrS 7 (.t 17) (.t 19)⟩,
       ⟨(some 23), none, .load (some 7) (.t 22)⟩,
       ⟨(some 5), none, .alloc [(.sc (.int .i64 (0))), (.sc (.int .i64 (0))), (.sc (.int .i64 (0))), (.sc (.int .i64 (0))), (.sc (.int .i64 (0))), (.sc (.int .i64 (0))), (.sc (.int .i64 (0)))]⟩,
       ⟨(some 4), none, .move (.t 21)⟩,
       ⟨none, none, .store 7 (.t 5) (.t 23)⟩])
     (.seq (.ops [⟨(some 6), none, .move (.c (.sc (.bool false)))⟩])
     (.seq (.seq (.ops [⟨(some 7), none, .move (.c (.sc (.int .i64 (0))))⟩])
     (.block 2 (.loop (.seq (.seq (.ops [⟨(some 24), none, .move (.t 7)⟩,
         ⟨(some 25), none, .move (.t 4)⟩,
         ⟨(some 26), none, .bin .lss (.t 24) (.t 25)⟩,
         ⟨(some 27), none, .move (.t 26)⟩,
         ⟨(some 28), (some (27, true)), .move (.t 3)⟩,
         ⟨(some 29), (some (27, true)), .move (.t 4)⟩,
         ⟨(some 30), (some (27, true)), .iaddrS 1 (.t 28) (.t 29)⟩,
         ⟨(some 31), (some (27, true)), .load none (.t 30)⟩,
         ⟨(some 32), (some (27, true)), .un .not (.t 31)⟩,
         ⟨(some 33), none, .pick (.t 27) (.t 32) (.c (.sc (.bool false)))⟩,
         ⟨(some 34), none, .move (.t 33)⟩,
         ⟨(some 35), (some (34, true)), .move (.t 6)⟩,
         ⟨(some 36), (some (34, true)), .un .not (.t 35)⟩,
         ⟨(some 37), none, .pick (.t 34) (.t 36) (.c (.sc (.bool false)))⟩])
       (.cond (.t 37)
        (.skip)
        (.exit 2)))
       (.seq (.block 3 (.draw [⟨true, [3], [], ⟨(some 40), none, .move (.t 3)⟩⟩,
          ⟨true, [7], [], ⟨(some 41), none, .move (.t 7)⟩⟩,
          ⟨true, [40, 41], [], ⟨(some 42), none, .iaddrS 1 (.t 40) (.t 41)⟩⟩,
          ⟨true, [42], [], ⟨(some 43), none, .load none (.t 42)⟩⟩,
          ⟨true, [43], [], ⟨(some 44), none, .un .not (.t 43)⟩⟩,
          ⟨true, [44], [], ⟨(some 45), none, .move (.t 44)⟩⟩,
          ⟨false, [2, 45], [], ⟨(some 46), (some (45, true)), .move (.t 2)⟩⟩,
          ⟨false, [7, 45], [], ⟨(some 47), (some (45, true)), .move (.t 7)⟩⟩,
          ⟨false, [46, 47, 45], [], ⟨(some 48), (some (45, true)), .iaddrS 9 (.t 46) (.t 47)⟩⟩,
          ⟨false, [48, 45], [], ⟨(some 49), (some (45, true)), .load (some 9) (.t 48)⟩⟩,
          ⟨false, [2, 45], [], ⟨(some 50), (some (45, true)), .move (.t 2)⟩⟩,
          ⟨false, [4, 45], [], ⟨(some 51), (some (45, true)), .move (.t 4)⟩⟩,
          ⟨false, [50, 51, 45], [], ⟨(some 52), (some (45, true)), .iaddrS 9 (.t 50) (.t 51)⟩⟩,
          ⟨false, [52, 45], [], ⟨(some 53), (some (45, true)), .load (some 9) (.t 52)⟩⟩]
          [⟨(some 54), (some (45, true)), .call (.c (.fn (.func 161) [] [])) [(.t 49), (.t 53)]⟩,
          ⟨(some 55), none, .pick (.t 45) (.t 54) (.c (.sc (.bool false)))⟩,
          ⟨(some 6), none, .move (.t 55)⟩]))
       (.ops [⟨(some 38), none, .move (.t 7)⟩,
         ⟨(some 39), none, .bin .add (.t 38) (.c (.sc (.int .i64 (1))))⟩,
         ⟨(some 7), none, .move (.t 39)⟩]))))))
     (.ops [⟨(some 56), none, .move (.t 0)⟩,
       ⟨(some 57), none, .move (.t 6)⟩,
       ⟨(some 58), none, .faddr 0 (.t 5)⟩,
       ⟨(some 59), none, .load (some 2) (.t 58)⟩,
       ⟨(some 60), none, .call (.c (.fn (.func 129) [] [])) [(.t 56), (.t 57), (.t 59)]⟩])))))
    (.ops [⟨(some 61), none, .bin .add (.t 19) (.c (.sc (.int .i64 (1))))⟩,
      ⟨(some 19), none, .move (.t 61)⟩]))))))),
  []⟩
theorem ok87 : EntryOk Tryz.prog 87 af87 := ⟨Tryz.f87, _, Tryz.func87, by decide, rfl, by kernel_rfl, by kernel_rfl, rfl⟩
/-- (*hemiola/check.checker).margins -/
noncomputable def af91 : AF := ⟨5, .seq (.ops [⟨(some 1), none, .box (.t 0)⟩])
  (.ops [⟨(some 2), none, .load none (.t 1)⟩,
    ⟨(some 3), none, .mkFn (.func 170) [] [(.t 1)]⟩,
    ⟨(some 4), none, .call (.c (.fn (.func 144) [] [])) [(.t 2), (.t 3)]⟩]),
  []⟩
theorem ok91 : EntryOk Tryz.prog 91 af91 := ⟨Tryz.f91, _, Tryz.func91, by decide, rfl, by kernel_rfl, by kernel_rfl, rfl⟩
/-- hemiola/timeline.starts -/
noncomputable def af96 : AF := ⟨33, .seq (.ops [⟨(some 1), none, .box (.t 0)⟩,
    ⟨(some 2), none, .move (.c (.sl true .full 0 []))⟩])
  (.seq (.ops [⟨(some 8), none, .buildSl 1 [(.c (.sc (.int .i64 (0))))]⟩,
    ⟨(some 3), none, .move (.t 8)⟩])
  (.seq (.seq (.ops [⟨(some 9), none, .faddr 3 (.t 1)⟩,
    ⟨(some 10), none, .load none (.t 9)⟩,
    ⟨(some 11), none, .len (.t 10)⟩,
    ⟨(some 12), none, .move (.c (.sc (.int .i64 (0))))⟩])
  (.block 0 (.loop (.seq (.ops [⟨(some 13), none, .bin .lss (.t 12) (.t 11)⟩])
    (.seq (.cond (.t 13)
     (.skip)
     (.exit 0))
    (.seq (.block 1 (.seq (.ops [⟨(some 14), none, .move (.t 12)⟩,
       ⟨(some 15), none, .iaddrS 22 (.t 10) (.t 12)⟩,
       ⟨(some 16), none, .load (some 22) (.t 15)⟩,
       ⟨(some 5), none, .alloc [(.sc (.int .i64 (0))), (.sc (.int .i64 (0))), (.sc (.int .i64 (0))), (.sc (.int .i64 (0))), (.sc (.int .i64 (0))), (.sc (.int .i64 (0))), (.sc (.int .i64 (0))), (.sc (.int .i64 (0))), (.sc (.int .i64 (0))), (.sc (.int .i64 (0))), (.sc (.int .i64 (0))), (.sc (.int .i64 (0))), (.sc (.bool false)), (.sc (.int .i64 (0))), (.sc (.int .i64 (0))), (.sc (.int .i64 (0))), (.sc (.int .i64 (0))), (.sc (.int .i64 (0))), (.sc (.int .i64 (0))), (.sc (.string ⟨#[]⟩)), (.sl true .full 0 []), (.sl true .full 0 [])]⟩,
       ⟨(some 4), none, .move (.t 14)⟩,
       ⟨none, none, .store 22 (.t 5) (.t 16)⟩])
     (.seq (.ops [⟨(some 18), none, .load (some 22) (.t 5)⟩,
       ⟨(some 19), none, .call (.c (.fn (.func 53) [] [])) [(.t 18)]⟩,
       ⟨(some 17), none, .move (.t 19)⟩,
       ⟨(some 20), none, .extract 0 (.t 17)⟩,
       ⟨(some 21), none, .extract 1 (.t 17)⟩,
       ⟨(some 6), none, .move (.t 20)⟩,
       ⟨(some 7), none, .move (.t 21)⟩])
     (.ops [⟨(some 22), none, .move (.t 3)⟩,
       ⟨(some 23), none, .move (.t 3)⟩,
       ⟨(some 24), none, .move (.t 4)⟩,
       ⟨(some 25), none, .iaddrS 1 (.t 23) (.t 24)⟩,
       ⟨(some 26), none, .load none (.t 25)⟩,
       ⟨(some 27), none, .move (.t 6)⟩,
       ⟨(some 28), none, .bin .add (.t 26) (.t 27)⟩,
       ⟨(some 29), none, .buildSl 1 [(.t 28)]⟩,
       ⟨(some 30), none, .append 1 8 (.t 22) (.t 29)⟩,
       ⟨(some 3), none, .move (.t 30)⟩]))))
    (.ops [⟨(some 31), none, .bin .add (.t 12) (.c (.sc (.int .i64 (1))))⟩,
      ⟨(some 12), none, .move (.t 31)⟩])))))))
  (.seq (.ops [⟨(some 32), none, .move (.t 3)⟩,
    ⟨(some 2), none, .move (.t 32)⟩])
  (.ret)))),
  [.t 2]⟩
theorem ok96 : EntryOk Tryz.prog 96 af96 := ⟨Tryz.f96, _, Tryz.func96, by decide, rfl, by kernel_rfl, by kernel_rfl, rfl⟩
/-- slices.SortedStableFunc[hemiola/api.Note] -/
noncomputable def af100 : AF := ⟨12, .seq (.ops [⟨(some 4), none, .move (.c (.sl true .full 0 []))⟩])
  (.seq (.ops [⟨(some 6), none, .move (.t 0)⟩,
    ⟨(some 7), none, .call (.c (.fn (.func 178) [] [])) [(.t 6)]⟩,
    ⟨(some 5), none, .move (.t 7)⟩])
  (.seq (.ops [⟨(some 8), none, .move (.t 5)⟩,
    ⟨(some 9), none, .move (.t 1)⟩,
    ⟨(some 10), none, .call (.c (.fn (.func 179) [] [])) [(.t 8), (.t 9)]⟩])
  (.seq (.ops [⟨(some 11), none, .move (.t 5)⟩,
    ⟨(some 4), none, .move (.t 11)⟩])
  (.ret)))),
  [.t 4]⟩
theorem ok100 : EntryOk Tryz.prog 100 af100 := ⟨Tryz.f100, _, Tryz.func100, by decide, rfl, by kernel_rfl, by kernel_rfl, rfl⟩
/-- slices.Clone[[]hemiola/tempo.Stretch,hemiola/tempo.Stretch] -/
noncomputable def af105 : AF := ⟨8, .seq (.ops [⟨(some 2), none, .move (.c (.sl true .full 0 []))⟩])
  (.seq (.seq (.ops [⟨(some 3), none, .move (.t 0)⟩,
    ⟨(some 4), none, .eqN .sl false (.t 3) (.c (.sl true .full 0 []))⟩])
  (.cond (.t 4)
   (.seq (.ops [⟨(some 2), none, .move (.c (.sl true .full 0 []))⟩])
   (.ret))
   (.skip)))
  (.seq (.ops [⟨(some 5), none, .buildSl 5 []⟩,
    ⟨(some 6), none, .move (.t 0)⟩,
    ⟨(some 7), none, .appendM 5 40 (.t 5) (.t 6)⟩,
    ⟨(some 2), none, .move (.t 7)⟩])
  (.ret))),
  [.t 2]⟩
theorem ok105 : EntryOk Tryz.prog 105 af105 := ⟨Tryz.f105, _, Tryz.func105, by decide, rfl, by kernel_rfl, by kernel_rfl, rfl⟩
/-- hemiola/voice.onsets -/
noncomputable def af109 : AF := ⟨29, .seq (.ops [⟨(some 2), none, .move (.c (.sl true .full 0 []))⟩])
  (.seq (.ops [⟨(some 5), none, .move (.t 0)⟩,
    ⟨(some 6), none, .len (.t 5)⟩,
    ⟨(some 7), none, .mkSl 1 8 [(.sc (.int .i64 (0)))] (.t 6) (.t 6)⟩,
    ⟨(some 3), none, .move (.t 7)⟩])
  (.seq (.seq (.ops [⟨(some 4), none, .move (.c (.sc (.int .i64 (1))))⟩])
  (.block 0 (.loop (.seq (.seq (.ops [⟨(some 8), none, .move (.t 4)⟩,
      ⟨(some 9), none, .move (.t 0)⟩,
      ⟨(some 10), none, .len (.t 9)⟩,
      ⟨(some 11), none, .bin .lss (.t 8) (.t 10)⟩])
    (.cond (.t 11)
     (.skip)
     (.exit 0)))
    (.seq (.block 1 (.draw [⟨false, [3], [], ⟨(some 14), none, .move (.t 3)⟩⟩,
       ⟨false, [4], [], ⟨(some 15), none, .move (.t 4)⟩⟩,
       ⟨false, [3], [], ⟨(some 16), none, .move (.t 3)⟩⟩,
       ⟨false, [4], [], ⟨(some 17), none, .move (.t 4)⟩⟩,
       ⟨false, [17], [], ⟨(some 18), none, .bin .sub (.t 17) (.c (.sc (.int .i64 (1))))⟩⟩,
       ⟨false, [16, 18], [], ⟨(some 19), none, .iaddrS 1 (.t 16) (.t 18)⟩⟩,
       ⟨false, [19], [], ⟨(some 20), none, .load none (.t 19)⟩⟩,
       ⟨false, [0], [], ⟨(some 21), none, .move (.t 0)⟩⟩,
       ⟨false, [4], [], ⟨(some 22), none, .move (.t 4)⟩⟩,
       ⟨false, [22], [], ⟨(some 23), none, .bin .sub (.t 22) (.c (.sc (.int .i64 (1))))⟩⟩,
       ⟨false, [21, 23], [], ⟨(some 24), none, .iaddrS 1 (.t 21) (.t 23)⟩⟩,
       ⟨false, [24], [], ⟨(some 25), none, .load none (.t 24)⟩⟩,
       ⟨true, [20, 25], [], ⟨(some 26), none, .bin .add (.t 20) (.t 25)⟩⟩]
       [⟨(some 27), none, .iaddrS 1 (.t 14) (.t 15)⟩,
       ⟨none, none, .store 1 (.t 27) (.t 26)⟩]))
    (.ops [⟨(some 12), none, .move (.t 4)⟩,
      ⟨(some 13), none, .bin .add (.t 12) (.c (.sc (.int .i64 (1))))⟩,
      ⟨(some 4), none, .move (.t 13)⟩]))))))
  (.seq (.ops [⟨(some 28), none, .move (.t 3)⟩,
    ⟨(some 2), none, .move (.t 28)⟩])
  (.ret)))),
  [.t 2]⟩
theorem ok109 : EntryOk Tryz.prog 109 af109 := ⟨Tryz.f109, _, Tryz.func109, by decide, rfl, by kernel_rfl, by kernel_rfl, rfl⟩
/-- hemiola/ornament.Swing -/
noncomputable def af114 : AF := ⟨73, .seq (.ops [⟨(some 4), none, .box (.t 0)⟩,
    ⟨(some 8), none, .move (.c (.sc (.int .i64 (0))))⟩,
    ⟨(some 9), none, .move (.c (.sc (.int .i64 (0))))⟩])
  (.seq (.seq (.ops [⟨(some 14), none, .load (some 8) (.t 4)⟩,
    ⟨(some 15), none, .call (.c (.fn (.func 182) [] [])) [(.t 14)]⟩,
    ⟨(some 10), none, .move (.t 15)⟩])
  (.seq (.ops [⟨(some 16), none, .move (.t 10)⟩,
    ⟨(some 17), none, .bin .neq (.t 16) (.c (.sc (.int .i64 (0))))⟩])
  (.cond (.t 17)
   (.seq (.ops [⟨(some 18), none, .move (.t 10)⟩,
     ⟨(some 8), none, .move (.c (.sc (.int .i64 (0))))⟩,
     ⟨(some 9), none, .move (.t 18)⟩])
   (.ret))
   (.skip))))
  (.seq (.block 0 (.seq (.ops [⟨(some 20), none, .move (.t 1)⟩,
     ⟨(some 21), none, .bin .lss (.t 20) (.c (.sc (.int .i64 (0))))⟩,
     ⟨(some 22), none, .move (.t 21)⟩,
     ⟨(some 23), (some (22, false)), .move (.t 1)⟩,
     ⟨(some 24), (some (22, false)), .bin .gtr (.t 23) (.c (.sc (.int .i64 (4398046511104))))⟩,
     ⟨(some 25), none, .pick (.t 22) (.c (.sc (.bool true))) (.t 24)⟩,
     ⟨(some 26), none, .move (.t 25)⟩,
     ⟨(some 27), (some (26, false)), .move (.t 2)⟩,
     ⟨(some 28), (some (26, false)), .bin .lss (.t 27) (.c (.sc (.int .i64 (0))))⟩,
     ⟨(some 29), none, .pick (.t 26) (.c (.sc (.bool true))) (.t 28)⟩,
     ⟨(some 30), none, .move (.t 29)⟩,
     ⟨(some 31), (some (30, false)), .move (.t 2)⟩,
     ⟨(some 32), (some (30, false)), .bin .gtr (.t 31) (.c (.sc (.int .i64 (4398046511104))))⟩,
     ⟨(some 33), none, .pick (.t 30) (.c (.sc (.bool true))) (.t 32)⟩,
     ⟨(some 34), none, .move (.t 33)⟩,
     ⟨(some 35), (some (34, false)), .move (.t 3)⟩,
     ⟨(some 36), (some (34, false)), .bin .lss (.t 35) (.c (.sc (.int .i64 (50))))⟩,
     ⟨(some 37), none, .pick (.t 34) (.c (.sc (.bool true))) (.t 36)⟩,
     ⟨(some 38), none, .move (.t 37)⟩,
     ⟨(some 39), (some (38, false)), .move (.t 3)⟩,
     ⟨(some 40), (some (38, false)), .bin .gtr (.t 39) (.c (.sc (.int .i64 (75))))⟩,
     ⟨(some 41), none, .pick (.t 38) (.c (.sc (.bool true))) (.t 40)⟩,
     ⟨(some 19), none, .move (.t 41)⟩])
   (.cond (.t 19)
    (.seq (.ops [⟨(some 8), none, .move (.c (.sc (.int .i64 (0))))⟩,
      ⟨(some 9), none, .move (.c (.sc (.int .i64 (2))))⟩])
    (.ret))
    (.seq (.ops [⟨(some 43), none, .faddr 1 (.t 4)⟩,
      ⟨(some 44), none, .load none (.t 43)⟩,
      ⟨(some 45), none, .bin .gtr (.t 44) (.c (.sc (.int .i64 (4))))⟩,
      ⟨(some 42), none, .move (.t 45)⟩])
    (.cond (.t 42)
     (.seq (.ops [⟨(some 46), none, .move (.t 2)⟩,
       ⟨(some 8), none, .move (.t 46)⟩,
       ⟨(some 9), none, .move (.c (.sc (.int .i64 (0))))⟩])
     (.ret))
     (.skip))))))
  (.seq (.ops [⟨(some 47), none, .move (.t 1)⟩,
    ⟨(some 48), none, .move (.t 2)⟩,
    ⟨(some 49), none, .bin .add (.t 47) (.t 48)⟩,
    ⟨(some 50), none, .bin .rem (.t 49) (.c (.sc (.int .i64 (483840))))⟩,
    ⟨(some 51), none, .move (.t 3)⟩,
    ⟨(some 52), none, .bin .mul (.c (.sc (.int .i64 (483840)))) (.t 51)⟩,
    ⟨(some 53), none, .bin .quo (.t 52) (.c (.sc (.int .i64 (100))))⟩,
    ⟨(some 11), none, .move (.t 50)⟩,
    ⟨(some 12), none, .move (.t 53)⟩])
  (.seq (.ops [⟨(some 54), none, .move (.t 11)⟩,
    ⟨(some 55), none, .move (.t 12)⟩,
    ⟨(some 56), none, .bin .mul (.t 54) (.t 55)⟩,
    ⟨(some 57), none, .bin .quo (.t 56) (.c (.sc (.int .i64 (241920))))⟩,
    ⟨(some 13), none, .move (.t 57)⟩])
  (.seq (.seq (.ops [⟨(some 58), none, .move (.t 11)⟩,
    ⟨(some 59), none, .bin .geq (.t 58) (.c (.sc (.int .i64 (241920))))⟩])
  (.cond (.t 59)
   (.ops [⟨(some 60), none, .move (.t 12)⟩,
     ⟨(some 61), none, .move (.t 11)⟩,
     ⟨(some 62), none, .bin .sub (.t 61) (.c (.sc (.int .i64 (241920))))⟩,
     ⟨(some 63), none, .move (.t 12)⟩,
     ⟨(some 64), none, .bin .sub (.c (.sc (.int .i64 (483840)))) (.t 63)⟩,
     ⟨(some 65), none, .bin .mul (.t 62) (.t 64)⟩,
     ⟨(some 66), none, .bin .quo (.t 65) (.c (.sc (.int .i64 (241920))))⟩,
     ⟨(some 67), none, .bin .add (.t 60) (.t 66)⟩,
     ⟨(some 13), none, .move (.t 67)⟩])
   (.skip)))
  (.seq (.ops [⟨(some 68), none, .move (.t 2)⟩,
    ⟨(some 69), none, .move (.t 13)⟩,
    ⟨(some 70), none, .bin .add (.t 68) (.t 69)⟩,
    ⟨(some 71), none, .move (.t 11)⟩,
    ⟨(some 72), none, .bin .sub (.t 70) (.t 71)⟩,
    ⟨(some 8), none, .move (.t 72)⟩,
    ⟨(some 9), none, .move (.c (.sc (.int .i64 (0))))⟩])
  (.ret))))))),
  [.t 8, .t 9]⟩
theorem ok114 : EntryOk Tryz.prog 114 af114 := ⟨Tryz.f114, _, Tryz.func114, by decide, rfl, by kernel_rfl, by kernel_rfl, rfl⟩
/-- hemiola/key.Check -/
noncomputable def af118 : AF := ⟨9, .seq (.ops [⟨(some 2), none, .move (.c (.sc (.int .i64 (0))))⟩])
  (.seq (.seq (.ops [⟨(some 3), none, .move (.t 0)⟩,
    ⟨(some 4), none, .bin .lss (.t 3) (.c (.sc (.int .i64 (-7))))⟩,
    ⟨(some 5), none, .move (.t 4)⟩,
    ⟨(some 6), (some (5, false)), .move (.t 0)⟩,
    ⟨(some 7), (some (5, false)), .bin .gtr (.t 6) (.c (.sc (.int .i64 (7))))⟩,
    ⟨(some 8), none, .pick (.t 5) (.c (.sc (.bool true))) (.t 7)⟩])
  (.cond (.t 8)
   (.seq (.ops [⟨(some 2), none, .move (.c (.sc (.int .i64 (2))))⟩])
   (.ret))
   (.skip)))
  (.seq (.ops [⟨(some 2), none, .move (.c (.sc (.int .i64 (0))))⟩])
  (.ret))),
  [.t 2]⟩
theorem ok118 : EntryOk Tryz.prog 118 af118 := ⟨Tryz.f118, _, Tryz.func118, by decide, rfl, by kernel_rfl, by kernel_rfl, rfl⟩
/-- slices.ContainsFunc[[]hemiola/api.Spanner,hemiola/api.Spanner] -/
noncomputable def af123 : AF := ⟨9, .seq (.ops [⟨(some 4), none, .move (.c (.sc (.bool false)))⟩])
  (.seq (.ops [⟨(some 5), none, .move (.t 0)⟩,
    ⟨(some 6), none, .move (.t 1)⟩,
    ⟨(some 7), none, .call (.c (.fn (.func 193) [] [])) [(.t 5), (.t 6)]⟩,
    ⟨(some 8), none, .bin .geq (.t 7) (.c (.sc (.int .i64 (0))))⟩,
    ⟨(some 4), none, .move (.t 8)⟩])
  (.ret)),
  [.t 4]⟩
theorem ok123 : EntryOk Tryz.prog 123 af123 := ⟨Tryz.f123, _, Tryz.func123, by decide, rfl, by kernel_rfl, by kernel_rfl, rfl⟩
/-- (*hemiola/check.checker).add -/
noncomputable def af129 : AF := ⟨22, .seq (.ops [⟨(some 5), none, .box (.t 2)⟩])
  (.seq (.ops [⟨(some 6), none, .move (.t 1)⟩])
  (.cond (.t 6)
   (.draw [⟨false, [0], [], ⟨(some 7), none, .move (.t 0)⟩⟩,
     ⟨false, [0], [], ⟨(some 8), none, .move (.t 0)⟩⟩,
     ⟨false, [8], [], ⟨(some 9), none, .nilCheck (.t 8)⟩⟩,
     ⟨false, [9], [], ⟨(some 10), none, .faddr 7 (.t 9)⟩⟩,
     ⟨false, [10], [], ⟨(some 11), none, .load none (.t 10)⟩⟩,
     ⟨false, [0], [], ⟨(some 12), none, .move (.t 0)⟩⟩,
     ⟨false, [12], [], ⟨(some 13), none, .nilCheck (.t 12)⟩⟩,
     ⟨false, [13], [], ⟨(some 14), none, .faddr 6 (.t 13)⟩⟩,
     ⟨false, [14], [], ⟨(some 15), none, .load none (.t 14)⟩⟩,
     ⟨false, [5], [], ⟨(some 16), none, .load (some 2) (.t 5)⟩⟩,
     ⟨false, [15, 16], [], ⟨(some 17), none, .build [(.sc (.int .i64 (0))), (.sc (.int .i64 (0))), (.sc (.int .i64 (0)))] [((0, 1), (.t 15)), ((1, 2), (.t 16))]⟩⟩,
     ⟨false, [17], [], ⟨(some 18), none, .buildSl 3 [(.t 17)]⟩⟩,
     ⟨true, [11, 18], [], ⟨(some 19), none, .append 3 24 (.t 11) (.t 18)⟩⟩]
     [⟨(some 20), none, .nilCheck (.t 7)⟩,
     ⟨(some 21), none, .faddr 7 (.t 20)⟩,
     ⟨none, none, .store 1 (.t 21) (.t 19)⟩])
   (.skip))),
  []⟩
theorem ok129 : EntryOk Tryz.prog 129 af129 := ⟨Tryz.f129, _, Tryz.func129, by decide, rfl, by kernel_rfl, by kernel_rfl, rfl⟩
/-- hemiola/score.IDs -/
noncomputable def af133 : AF := ⟨16, .seq (.ops [⟨(some 1), none, .box (.t 0)⟩,
    ⟨(some 2), none, .move (.c (.sl true .full 0 []))⟩])
  (.seq (.ops [⟨(some 3), none, .alloc [(.sl true .full 0 [])]⟩])
  (.seq (.seq (.ops [⟨(some 6), none, .call (.c (.fn (.func 209) [] [])) [(.t 1)]⟩])
  (.block 0 (.range (.t 6) #[7, 8]
    (.ops [⟨(some 5), none, .move (.t 8)⟩])
    (.block 1 (.draw [⟨false, [3], [], ⟨(some 9), none, .load none (.t 3)⟩⟩,
       ⟨false, [5], [], ⟨(some 10), none, .move (.t 5)⟩⟩,
       ⟨false, [10], [], ⟨(some 11), none, .nilCheck (.t 10)⟩⟩,
       ⟨false, [11], [], ⟨(some 12), none, .load (some 2) (.t 11)⟩⟩,
       ⟨false, [12], [], ⟨(some 13), none, .buildSl 2 [(.t 12)]⟩⟩]
       [⟨(some 14), none, .append 2 16 (.t 9) (.t 13)⟩,
       ⟨none, none, .store 1 (.t 3) (.t 14)⟩]))
    (codeAt (Tryz.f133.body.getD .skip) [1, 1, 0, 1, 0, 0]) (codeAt (Tryz.f133.body.getD .skip) [1, 1, 0, 1, 0, 1]))))
  (.seq (.ops [⟨(some 15), none, .load none (.t 3)⟩,
    ⟨(some 2), none, .move (.t 15)⟩])
  (.ret)))),
  [.t 2]⟩
theorem ok133 : EntryOk Tryz.prog 133 af133 := ⟨Tryz.f133, _, Tryz.func133, by decide, rfl, by kernel_rfl, by kernel_rfl, rfl⟩
/-- (*hemiola/check.checker).structure$1 -/
noncomputable def af137 : AF := ⟨73, .seq (.ops [⟨(some 4), none, .box (.t 1)⟩,
    ⟨(some 5), none, .move (.c (.sc (.bool false)))⟩])
  (.seq (.ops [⟨(some 12), none, .faddr 21 (.t 4)⟩,
    ⟨(some 13), none, .load none (.t 12)⟩,
    ⟨(some 14), none, .len (.t 13)⟩,
    ⟨(some 15), none, .load none (.t 2)⟩,
    ⟨(some 16), none, .bin .neq (.t 14) (.t 15)⟩,
    ⟨(some 6), none, .move (.t 16)⟩])
  (.seq (.seq (.ops [⟨(some 17), none, .faddr 21 (.t 4)⟩,
    ⟨(some 18), none, .load none (.t 17)⟩,
    ⟨(some 19), none, .len (.t 18)⟩,
    ⟨(some 20), none, .move (.c (.sc (.int .i64 (0))))⟩])
  (.block 0 (.loop (.seq (.ops [⟨(some 21), none, .bin .lss (.t 20) (.t 19)⟩])
    (.seq (.cond (.t 21)
     (.skip)
     (.exit 0))
    (.seq (.block 1 (.seq (.ops [⟨(some 22), none, .iaddrS 2 (.t 18) (.t 20)⟩,
       ⟨(some 23), none, .load (some 2) (.t 22)⟩,
       ⟨(some 8), none, .alloc [(.sl true .full 0 []), (.sl true .full 0 [])]⟩,
       ⟨none, none, .store 2 (.t 8) (.t 23)⟩])
     (.seq (.ops [⟨(some 24), none, .faddr 1 (.t 8)⟩,
       ⟨(some 25), none, .load none (.t 24)⟩,
       ⟨(some 9), none, .move (.t 25)⟩])
     (.seq (.ops [⟨(some 26), none, .move (.t 6)⟩,
       ⟨(some 27), none, .move (.t 26)⟩,
       ⟨(some 28), (some (27, false)), .move (.t 9)⟩,
       ⟨(some 29), (some (27, false)), .len (.t 28)⟩,
       ⟨(some 30), (some (27, false)), .bin .eql (.t 29) (.c (.sc (.int .i64 (0))))⟩,
       ⟨(some 31), none, .pick (.t 27) (.c (.sc (.bool true))) (.t 30)⟩,
       ⟨(some 32), none, .move (.t 31)⟩,
       ⟨(some 33), (some (32, false)), .move (.t 9)⟩,
       ⟨(some 34), (some (32, false)), .iaddrS 2 (.t 33) (.c (.sc (.int .i64 (0))))⟩,
       ⟨(some 35), (some (32, false)), .faddr 0 (.t 34)⟩,
       ⟨(some 36), (some (32, false)), .load none (.t 35)⟩,
       ⟨(some 37), (some (32, false)), .len (.t 36)⟩,
       ⟨(some 38), (some (32, false)), .bin .eql (.t 37) (.c (.sc (.int .i64 (0))))⟩,
       ⟨(some 39), none, .pick (.t 32) (.c (.sc (.bool true))) (.t 38)⟩,
       ⟨(some 40), none, .move (.t 39)⟩,
       ⟨(some 41), (some (40, false)), .move (.t 9)⟩,
       ⟨(some 42), (some (40, false)), .move (.t 9)⟩,
       ⟨(some 43), (some (40, false)), .len (.t 42)⟩,
       ⟨(some 44), (some (40, false)), .bin .sub (.t 43) (.c (.sc (.int .i64 (1))))⟩,
       ⟨(some 45), (some (40, false)), .iaddrS 2 (.t 41) (.t 44)⟩,
       ⟨(some 46), (some (40, false)), .faddr 0 (.t 45)⟩,
       ⟨(some 47), (some (40, false)), .load none (.t 46)⟩,
       ⟨(some 48), (some (40, false)), .len (.t 47)⟩,
       ⟨(some 49), (some (40, false)), .bin .eql (.t 48) (.c (.sc (.int .i64 (0))))⟩,
       ⟨(some 50), none, .pick (.t 40) (.c (.sc (.bool true))) (.t 49)⟩,
       ⟨(some 6), none, .move (.t 50)⟩])
     (.seq (.ops [⟨(some 51), none, .move (.t 9)⟩,
       ⟨(some 52), none, .len (.t 51)⟩,
       ⟨(some 53), none, .move (.c (.sc (.int .i64 (0))))⟩])
     (.block 2 (.loop (.seq (.ops [⟨(some 54), none, .bin .lss (.t 53) (.t 52)⟩])
       (.seq (.cond (.t 54)
        (.skip)
        (.exit 2))
       (.seq (.block 3 (.seq (.ops [⟨(some 55), none, .iaddrS 2 (.t 51) (.t 53)⟩,
          ⟨(some 56), none, .load (some 2) (.t 55)⟩,
          ⟨(some 11), none, .alloc [(.sl true .full 0 []), (.sl true .full 0 [])]⟩,
          ⟨none, none, .store 2 (.t 11) (.t 56)⟩])
        (.ops [⟨(some 57), none, .move (.t 6)⟩,
          ⟨(some 58), none, .move (.t 57)⟩,
          ⟨(some 59), (some (58, false)), .faddr 0 (.t 11)⟩,
          ⟨(some 60), (some (58, false)), .load none (.t 59)⟩,
          ⟨(some 61), (some (58, false)), .len (.t 60)⟩,
          ⟨(some 62), (some (58, false)), .bin .eql (.t 61) (.c (.sc (.int .i64 (0))))⟩,
          ⟨(some 63), (some (58, false)), .move (.t 62)⟩,
          ⟨(some 64), (some (63, true)), .faddr 1 (.t 11)⟩,
          ⟨(some 65), (some (63, true)), .load none (.t 64)⟩,
          ⟨(some 66), (some (63, true)), .len (.t 65)⟩,
          ⟨(some 67), (some (63, true)), .bin .gtr (.t 66) (.c (.sc (.int .i64 (0))))⟩,
          ⟨(some 68), (some (58, false)), .pick (.t 63) (.t 67) (.c (.sc (.bool false)))⟩,
          ⟨(some 69), none, .pick (.t 58) (.c (.sc (.bool true))) (.t 68)⟩,
          ⟨(some 6), none, .move (.t 69)⟩])))
       (.ops [⟨(some 70), none, .bin .add (.t 53) (.c (.sc (.int .i64 (1))))⟩,
         ⟨(some 53), none, .move (.t 70)⟩])))))))))))
    (.ops [⟨(some 71), none, .bin .add (.t 20) (.c (.sc (.int .i64 (1))))⟩,
      ⟨(some 20), none, .move (.t 71)⟩])))))))
  (.seq (.ops [⟨(some 72), none, .move (.t 6)⟩,
    ⟨(some 5), none, .move (.t 72)⟩])
  (.ret)))),
  [.t 5]⟩
theorem ok137 : EntryOk Tryz.prog 137 af137 := ⟨Tryz.f137, _, Tryz.func137, by decide, rfl, by kernel_rfl, by kernel_rfl, rfl⟩
/-- (*hemiola/check.checker).filled -/
noncomputable def af141 : AF := ⟨7, .seq (.ops [⟨(some 3), none, .box (.t 1)⟩])
  (.ops [⟨(some 4), none, .move (.t 0)⟩,
    ⟨(some 5), none, .mkFn (.func 211) [] [(.t 3)]⟩,
    ⟨(some 6), none, .call (.c (.fn (.func 136) [] [])) [(.t 4), (.t 5)]⟩]),
  []⟩
theorem ok141 : EntryOk Tryz.prog 141 af141 := ⟨Tryz.f141, _, Tryz.func141, by decide, rfl, by kernel_rfl, by kernel_rfl, rfl⟩
/-- (*hemiola/check.checker).events$1 -/
noncomputable def af145 : AF := ⟨8, .seq (.ops [⟨(some 2), none, .box (.t 0)⟩,
    ⟨(some 3), none, .box (.t 1)⟩,
    ⟨(some 4), none, .move (.c (.sc (.bool false)))⟩])
  (.seq (.ops [⟨(some 5), none, .load (some 13) (.t 3)⟩,
    ⟨(some 6), none, .call (.c (.fn (.func 146) [] [])) [(.t 5)]⟩,
    ⟨(some 7), none, .bin .neq (.t 6) (.c (.sc (.int .i64 (0))))⟩,
    ⟨(some 4), none, .move (.t 7)⟩])
  (.ret)),
  [.t 4]⟩
theorem ok145 : EntryOk Tryz.prog 145 af145 := ⟨Tryz.f145, _, Tryz.func145, by decide, rfl, by kernel_rfl, by kernel_rfl, rfl⟩
/-- slices.ContainsFunc[[]hemiola/api.Head,hemiola/api.Head] -/
noncomputable def af149 : AF := ⟨9, .seq (.ops [⟨(some 4), none, .move (.c (.sc (.bool false)))⟩])
  (.seq (.ops [⟨(some 5), none, .move (.t 0)⟩,
    ⟨(some 6), none, .move (.t 1)⟩,
    ⟨(some 7), none, .call (.c (.fn (.func 227) [] [])) [(.t 5), (.t 6)]⟩,
    ⟨(some 8), none, .bin .geq (.t 7) (.c (.sc (.int .i64 (0))))⟩,
    ⟨(some 4), none, .move (.t 8)⟩])
  (.ret)),
  [.t 4]⟩
theorem ok149 : EntryOk Tryz.prog 149 af149 := ⟨Tryz.f149, _, Tryz.func149, by decide, rfl, by kernel_rfl, by kernel_rfl, rfl⟩
/-- hemiola/event.Ties -/
noncomputable def af154 : AF := ⟨11, .seq (.ops [⟨(some 1), none, .box (.t 0)⟩,
    ⟨(some 2), none, .move (.c (.sc (.bool false)))⟩])
  (.seq (.ops [⟨(some 3), none, .faddr 2 (.t 1)⟩,
    ⟨(some 4), none, .load none (.t 3)⟩,
    ⟨(some 5), none, .bin .eql (.t 4) (.c (.sc (.int .i64 (1))))⟩,
    ⟨(some 6), none, .move (.t 5)⟩,
    ⟨(some 7), (some (6, true)), .faddr 5 (.t 1)⟩,
    ⟨(some 8), (some (6, true)), .load none (.t 7)⟩,
    ⟨(some 9), (some (6, true)), .call (.c (.fn (.func 149) [] [])) [(.t 8), (.c (.fn (.func 229) [] []))]⟩,
    ⟨(some 10), none, .pick (.t 6) (.t 9) (.c (.sc (.bool false)))⟩,
    ⟨(some 2), none, .move (.t 10)⟩])
  (.ret)),
  [.t 2]⟩
theorem ok154 : EntryOk Tryz.prog 154 af154 := ⟨Tryz.f154, _, Tryz.func154, by decide, rfl, by kernel_rfl, by kernel_rfl, rfl⟩
/-- (*hemiola/check.checker).spans -/
noncomputable def af160 : AF := ⟨63, .seq (.ops [⟨(some 2), none, .move (.c (.sl true .full 0 []))⟩,
    ⟨(some 3), none, .move (.c (.sl true .full 0 []))⟩])
  (.seq (.ops [⟨(some 4), none, .move (.c (.sl true .full 0 []))⟩])
  (.seq (.ops [⟨(some 5), none, .move (.c (.sl true .full 0 []))⟩])
  (.seq (.seq (.ops [⟨(some 13), none, .move (.t 0)⟩,
    ⟨(some 14), none, .nilCheck (.t 13)⟩,
    ⟨(some 15), none, .faddr 0 (.t 14)⟩,
    ⟨(some 16), none, .faddr 4 (.t 15)⟩,
    ⟨(some 17), none, .load none (.t 16)⟩,
    ⟨(some 18), none, .len (.t 17)⟩,
    ⟨(some 19), none, .move (.c (.sc (.int .i64 (0))))⟩])
  (.block 0 (.loop (.seq (.ops [⟨(some 20), none, .bin .lss (.t 19) (.t 18)⟩])
    (.seq (.cond (.t 20)
     (.skip)
     (.exit 0))
    (.seq (.block 1 (.seq (.ops [⟨(some 21), none, .iaddrS 7 (.t 17) (.t 19)⟩,
       ⟨(some 22), none, .load (some 7) (.t 21)⟩,
       ⟨(some 7), none, .alloc [(.sc (.int .i64 (0))), (.sc (.int .i64 (0))), (.sc (.int .i64 (0))), (.sc (.int .i64 (0))), (.sc (.int .i64 (0))), (.sc (.int .i64 (0))), (.sc (.int .i64 (0)))]⟩,
       ⟨none, none, .store 7 (.t 7) (.t 22)⟩])
     (.seq (.ops [⟨(some 24), none, .move (.t 0)⟩,
       ⟨(some 25), none, .faddr 3 (.t 7)⟩,
       ⟨(some 26), none, .load (some 2) (.t 25)⟩,
       ⟨(some 27), none, .call (.c (.fn (.func 236) [] [])) [(.t 24), (.t 26)]⟩,
       ⟨(some 23), none, .move (.t 27)⟩,
       ⟨(some 28), none, .extract 0 (.t 23)⟩,
       ⟨(some 29), none, .extract 1 (.t 23)⟩,
       ⟨(some 8), none, .alloc [(.sc (.int .i64 (0))), (.sc (.int .i64 (0))), (.sc (.int .i64 (0))), (.sc (.int .i64 (0)))]⟩,
       ⟨none, none, .store 4 (.t 8) (.t 28)⟩,
       ⟨(some 9), none, .move (.t 29)⟩])
     (.seq (.ops [⟨(some 31), none, .move (.t 0)⟩,
       ⟨(some 32), none, .faddr 5 (.t 7)⟩,
       ⟨(some 33), none, .load (some 2) (.t 32)⟩,
       ⟨(some 34), none, .call (.c (.fn (.func 236) [] [])) [(.t 31), (.t 33)]⟩,
       ⟨(some 30), none, .move (.t 34)⟩,
       ⟨(some 35), none, .extract 0 (.t 30)⟩,
       ⟨(some 36), none, .extract 1 (.t 30)⟩,
       ⟨(some 10), none, .alloc [(.sc (.int .i64 (0))), (.sc (.int .i64 (0))), (.sc (.int .i64 (0))), (.sc (.int .i64 (0)))]⟩,
       ⟨none, none, .store 4 (.t 10) (.t 35)⟩,
       ⟨(some 11), none, .move (.t 36)⟩])
     (.seq (.ops [⟨(some 37), none, .faddr 2 (.t 7)⟩,
       ⟨(some 38), none, .load none (.t 37)⟩,
       ⟨(some 39), none, .load (some 4) (.t 8)⟩,
       ⟨(some 40), none, .load (some 4) (.t 10)⟩,
       ⟨(some 41), none, .build [(.sc (.int .i64 (0))), (.sc (.int .i64 (0))), (.sc (.int .i64 (0))), (.sc (.int .i64 (0))), (.sc (.int .i64 (0))), (.sc (.int .i64 (0))), (.sc (.int .i64 (0))), (.sc (.int .i64 (0))), (.sc (.int .i64 (0)))] [((0, 1), (.t 38)), ((1, 4), (.t 39)), ((5, 4), (.t 40))]⟩,
       ⟨(some 12), none, .alloc [(.sc (.int .i64 (0))), (.sc (.int .i64 (0))), (.sc (.int .i64 (0))), (.sc (.int .i64 (0))), (.sc (.int .i64 (0))), (.sc (.int .i64 (0))), (.sc (.int .i64 (0))), (.sc (.int .i64 (0))), (.sc (.int .i64 (0)))]⟩,
       ⟨none, none, .store 9 (.t 12) (.t 41)⟩])
     (.ops [⟨(some 42), none, .move (.t 4)⟩,
       ⟨(some 43), none, .load (some 9) (.t 12)⟩,
       ⟨(some 44), none, .buildSl 9 [(.t 43)]⟩,
       ⟨(some 45), none, .append 9 72 (.t 42) (.t 44)⟩,
       ⟨(some 46), none, .move (.t 5)⟩,
       ⟨(some 47), none, .move (.t 9)⟩,
       ⟨(some 48), none, .un .not (.t 47)⟩,
       ⟨(some 49), none, .move (.t 48)⟩,
       ⟨(some 50), (some (49, false)), .move (.t 11)⟩,
       ⟨(some 51), (some (49, false)), .un .not (.t 50)⟩,
       ⟨(some 52), none, .pick (.t 49) (.c (.sc (.bool true))) (.t 51)⟩,
       ⟨(some 53), none, .move (.t 52)⟩,
       ⟨(some 54), (some (53, false)), .load (some 9) (.t 12)⟩,
       ⟨(some 55), (some (53, false)), .call (.c (.fn (.func 237) [] [])) [(.t 54)]⟩,
       ⟨(some 56), (some (53, false)), .bin .neq (.t 55) (.c (.sc (.int .i64 (0))))⟩,
       ⟨(some 57), none, .pick (.t 53) (.c (.sc (.bool true))) (.t 56)⟩,
       ⟨(some 58), none, .buildSl 1 [(.t 57)]⟩,
       ⟨(some 59), none, .append 1 1 (.t 46) (.t 58)⟩,
       ⟨(some 4), none, .move (.t 45)⟩,
       ⟨(some 5), none, .move (.t 59)⟩]))))))
    (.ops [⟨(some 60), none, .bin .add (.t 19) (.c (.sc (.int .i64 (1))))⟩,
      ⟨(some 19), none, .move (.t 60)⟩])))))))
  (.seq (.ops [⟨(some 61), none, .move (.t 4)⟩,
    ⟨(some 62), none, .move (.t 5)⟩,
    ⟨(some 2), none, .move (.t 61)⟩,
    ⟨(some 3), none, .move (.t 62)⟩])
  (.ret))))),
  [.t 2, .t 3]⟩
theorem ok160 : EntryOk Tryz.prog 160 af160 := ⟨Tryz.f160, _, Tryz.func160, by decide, rfl, by kernel_rfl, by kernel_rfl, rfl⟩
/-- slices.ContainsFunc[[]hemiola/api.Measure,hemiola/api.Measure] -/
noncomputable def af167 : AF := ⟨9, .seq (.ops [⟨(some 4), none, .move (.c (.sc (.bool false)))⟩])
  (.seq (.ops [⟨(some 5), none, .move (.t 0)⟩,
    ⟨(some 6), none, .move (.t 1)⟩,
    ⟨(some 7), none, .call (.c (.fn (.func 245) [] [])) [(.t 5), (.t 6)]⟩,
    ⟨(some 8), none, .bin .geq (.t 7) (.c (.sc (.int .i64 (0))))⟩,
    ⟨(some 4), none, .move (.t 8)⟩])
  (.ret)),
  [.t 4]⟩
theorem ok167 : EntryOk Tryz.prog 167 af167 := ⟨Tryz.f167, _, Tryz.func167, by decide, rfl, by kernel_rfl, by kernel_rfl, rfl⟩
/-- (hemiola/unfold.group).measures$1 -/
noncomputable def af172 : AF := ⟨62, .seq (.ops [⟨(some 10), none, .faddr 3 (.t 1)⟩,
    ⟨(some 11), none, .load none (.t 10)⟩,
    ⟨(some 12), none, .move (.c (.sc (.int .i64 (0))))⟩])
  (.block 0 (.loop (.seq (.ops [⟨(some 13), none, .bin .lss (.t 12) (.t 11)⟩])
    (.seq (.cond (.t 13)
     (.skip)
     (.exit 0))
    (.seq (.block 1 (.seq (.ops [⟨(some 14), none, .move (.t 12)⟩,
       ⟨(some 3), none, .move (.t 14)⟩])
     (.seq (.ops [⟨(some 15), none, .faddr 0 (.t 1)⟩,
       ⟨(some 16), none, .load (some 2) (.t 15)⟩,
       ⟨(some 17), none, .buildSl 2 [(.t 16)]⟩,
       ⟨(some 4), none, .move (.t 17)⟩])
     (.seq (.seq (.ops [⟨(some 18), none, .faddr 2 (.t 1)⟩,
       ⟨(some 19), none, .load none (.t 18)⟩,
       ⟨(some 20), none, .len (.t 19)⟩,
       ⟨(some 21), none, .move (.c (.sc (.int .i64 (0))))⟩])
     (.block 2 (.loop (.seq (.ops [⟨(some 22), none, .bin .lss (.t 21) (.t 20)⟩])
       (.seq (.cond (.t 22)
        (.skip)
        (.exit 2))
       (.seq (.block 3 (.seq (.ops [⟨(some 23), none, .iaddrS 3 (.t 19) (.t 21)⟩,
          ⟨(some 24), none, .load (some 3) (.t 23)⟩,
          ⟨(some 6), none, .alloc [(.sc (.int .i64 (0))), (.sc (.int .i64 (0))), (.sc (.int .i64 (0)))]⟩,
          ⟨none, none, .store 3 (.t 6) (.t 24)⟩])
        (.seq (.ops [⟨(some 25), none, .faddr 2 (.t 6)⟩,
          ⟨(some 26), none, .load none (.t 25)⟩,
          ⟨(some 27), none, .move (.t 3)⟩,
          ⟨(some 28), none, .bin .shr (.t 26) (.t 27)⟩,
          ⟨(some 29), none, .bin .and (.t 28) (.c (.sc (.int .i64 (1))))⟩,
          ⟨(some 30), none, .bin .eql (.t 29) (.c (.sc (.int .i64 (1))))⟩])
        (.cond (.t 30)
         (.ops [⟨(some 31), none, .move (.t 4)⟩,
           ⟨(some 32), none, .faddr 0 (.t 6)⟩,
           ⟨(some 33), none, .load (some 2) (.t 32)⟩,
           ⟨(some 34), none, .buildSl 2 [(.t 33)]⟩,
           ⟨(some 35), none, .append 2 16 (.t 31) (.t 34)⟩,
           ⟨(some 4), none, .move (.t 35)⟩])
         (.skip)))))
       (.ops [⟨(some 36), none, .bin .add (.t 21) (.c (.sc (.int .i64 (1))))⟩,
         ⟨(some 21), none, .move (.t 36)⟩])))))))
     (.seq (.ops [⟨(some 37), none, .move (.t 4)⟩,
       ⟨(some 38), none, .len (.t 37)⟩,
       ⟨(some 39), none, .move (.c (.sc (.int .i64 (0))))⟩])
     (.block 4 (.loop (.seq (.ops [⟨(some 40), none, .bin .lss (.t 39) (.t 38)⟩])
       (.seq (.cond (.t 40)
        (.skip)
        (.exit 4))
       (.seq (.block 5 (.seq (.ops [⟨(some 41), none, .iaddrS 2 (.t 37) (.t 39)⟩,
          ⟨(some 42), none, .load (some 2) (.t 41)⟩,
          ⟨(some 8), none, .alloc [(.sc (.int .i64 (0))), (.sc (.int .i64 (0)))]⟩,
          ⟨none, none, .store 2 (.t 8) (.t 42)⟩])
        (.seq (.ops [⟨(some 43), none, .faddr 0 (.t 8)⟩,
          ⟨(some 44), none, .load none (.t 43)⟩,
          ⟨(some 9), none, .move (.t 44)⟩])
        (.block 6 (.loop (.seq (.seq (.ops [⟨(some 45), none, .move (.t 9)⟩,
            ⟨(some 46), none, .faddr 1 (.t 8)⟩,
            ⟨(some 47), none, .load none (.t 46)⟩,
            ⟨(some 48), none, .bin .lss (.t 45) (.t 47)⟩])
          (.cond (.t 48)
           (.skip)
           (.exit 6)))
          (.seq (.block 7 (.seq (.ops [⟨(some 51), none, .move (.t 0)⟩,
             ⟨(some 52), none, .move (.t 9)⟩,
             ⟨(some 53), none, .move (.t 3)⟩,
             ⟨(some 54), none, .faddr 3 (.t 1)⟩,
             ⟨(some 55), none, .load none (.t 54)⟩,
             ⟨(some 56), none, .bin .sub (.t 55) (.c (.sc (.int .i64 (1))))⟩,
             ⟨(some 57), none, .bin .eql (.t 53) (.t 56)⟩,
             ⟨(some 58), none, .call (.t 51) [(.t 52), (.t 57)]⟩,
             ⟨(some 59), none, .un .not (.t 58)⟩])
           (.cond (.t 59)
            (.ret)
            (.skip))))
          (.ops [⟨(some 49), none, .move (.t 9)⟩,
            ⟨(some 50), none, .bin .add (.t 49) (.c (.sc (.int .i64 (1))))⟩,
            ⟨(some 9), none, .move (.t 50)⟩]))))))))
       (.ops [⟨(some 60), none, .bin .add (.t 39) (.c (.sc (.int .i64 (1))))⟩,
         ⟨(some 39), none, .move (.t 60)⟩])))))))))))
    (.ops [⟨(some 61), none, .bin .add (.t 12) (.c (.sc (.int .i64 (1))))⟩,
      ⟨(some 12), none, .move (.t 61)⟩])))))),
  []⟩
theorem ok172 : EntryOk Tryz.prog 172 af172 := ⟨Tryz.f172, _, Tryz.func172, by decide, rfl, by kernel_rfl, by kernel_rfl, rfl⟩
/-- slices.SortStableFunc[[]hemiola/api.Note,hemiola/api.Note] -/
noncomputable def af179 : AF := ⟨9, .ops [⟨(some 4), none, .move (.t 0)⟩,
    ⟨(some 5), none, .move (.t 0)⟩,
    ⟨(some 6), none, .len (.t 5)⟩,
    ⟨(some 7), none, .move (.t 1)⟩,
    ⟨(some 8), none, .call (.c (.fn (.func 253) [] [])) [(.t 4), (.t 6), (.t 7)]⟩],
  []⟩
theorem ok179 : EntryOk Tryz.prog 179 af179 := ⟨Tryz.f179, _, Tryz.func179, by decide, rfl, by kernel_rfl, by kernel_rfl, rfl⟩
/-- hemiola/metre.length -/
noncomputable def af183 : AF := ⟨8, .seq (.ops [⟨(some 1), none, .box (.t 0)⟩,
    ⟨(some 2), none, .move (.c (.sc (.int .i64 (0))))⟩])
  (.seq (.draw [⟨false, [1], [], ⟨(some 3), none, .faddr 0 (.t 1)⟩⟩,
    ⟨false, [3], [3], ⟨(some 4), none, .load none (.t 3)⟩⟩,
    ⟨false, [1], [], ⟨(some 5), none, .load (some 8) (.t 1)⟩⟩,
    ⟨true, [5], [], ⟨(some 6), none, .call (.c (.fn (.func 258) [] [])) [(.t 5)]⟩⟩]
    [⟨(some 7), none, .bin .mul (.t 4) (.t 6)⟩,
    ⟨(some 2), none, .move (.t 7)⟩])
  (.ret)),
  [.t 2]⟩
theorem ok183 : EntryOk Tryz.prog 183 af183 := ⟨Tryz.f183, _, Tryz.func183, by decide, rfl, by kernel_rfl, by kernel_rfl, rfl⟩
/-- (*hemiola/tempo.Map).find -/
noncomputable def af187 : AF := ⟨44, .seq (.ops [⟨(some 2), none, .box (.t 0)⟩,
    ⟨(some 3), none, .box (.t 1)⟩,
    ⟨(some 4), none, .alloc [(.sc (.int .i64 (0))), (.sc (.int .i64 (0))), (.sc (.int .i64 (0))), (.sc (.int .i64 (0))), (.sc (.int .i64 (0)))]⟩,
    ⟨(some 5), none, .move (.c (.sc (.int .i64 (0))))⟩])
  (.seq (.block 0 (.seq (.ops [⟨(some 8), none, .load none (.t 2)⟩,
     ⟨(some 9), none, .eqN .pt false (.t 8) (.c (.sc (.pointer none)))⟩,
     ⟨(some 7), none, .move (.t 9)⟩])
   (.cond (.t 7)
    (.seq (.ops [⟨(some 10), none, .build [(.sc (.int .i64 (0))), (.sc (.int .i64 (0))), (.sc (.int .i64 (0))), (.sc (.int .i64 (0))), (.sc (.int .i64 (0)))] []⟩,
      ⟨none, none, .store 5 (.t 4) (.t 10)⟩,
      ⟨(some 5), none, .move (.c (.sc (.int .i64 (1))))⟩])
    (.ret))
    (.seq (.draw [⟨true, [2], [], ⟨(some 12), none, .load none (.t 2)⟩⟩,
      ⟨true, [12], [], ⟨(some 13), none, .nilCheck (.t 12)⟩⟩,
      ⟨true, [13], [], ⟨(some 14), none, .faddr 0 (.t 13)⟩⟩,
      ⟨true, [14], [], ⟨(some 15), none, .load none (.t 14)⟩⟩,
      ⟨true, [15], [], ⟨(some 16), none, .len (.t 15)⟩⟩,
      ⟨true, [16], [], ⟨(some 17), none, .bin .eql (.t 16) (.c (.sc (.int .i64 (0))))⟩⟩,
      ⟨true, [17], [], ⟨(some 18), none, .move (.t 17)⟩⟩,
      ⟨true, [3, 18], [], ⟨(some 19), (some (18, false)), .load none (.t 3)⟩⟩,
      ⟨true, [19, 18], [], ⟨(some 20), (some (18, false)), .bin .lss (.t 19) (.c (.sc (.int .i64 (0))))⟩⟩,
      ⟨true, [18, 20], [], ⟨(some 21), none, .pick (.t 18) (.c (.sc (.bool true))) (.t 20)⟩⟩,
      ⟨true, [21], [], ⟨(some 22), none, .move (.t 21)⟩⟩,
      ⟨false, [3, 22], [13], ⟨(some 23), (some (22, false)), .load none (.t 3)⟩⟩,
      ⟨false, [2, 22], [], ⟨(some 24), (some (22, false)), .load none (.t 2)⟩⟩,
      ⟨true, [24, 22], [], ⟨(some 25), (some (22, false)), .call (.c (.fn (.func 261) [] [])) [(.t 24)]⟩⟩]
      [⟨(some 26), (some (22, false)), .bin .gtr (.t 23) (.t 25)⟩,
      ⟨(some 27), none, .pick (.t 22) (.c (.sc (.bool true))) (.t 26)⟩,
      ⟨(some 11), none, .move (.t 27)⟩])
    (.cond (.t 11)
     (.seq (.ops [⟨(some 28), none, .build [(.sc (.int .i64 (0))), (.sc (.int .i64 (0))), (.sc (.int .i64 (0))), (.sc (.int .i64 (0))), (.sc (.int .i64 (0)))] []⟩,
       ⟨none, none, .store 5 (.t 4) (.t 28)⟩,
       ⟨(some 5), none, .move (.c (.sc (.int .i64 (2))))⟩])
     (.ret))
     (.skip))))))
  (.seq (.ops [⟨(some 29), none, .load none (.t 2)⟩,
    ⟨(some 30), none, .nilCheck (.t 29)⟩,
    ⟨(some 31), none, .faddr 0 (.t 30)⟩,
    ⟨(some 32), none, .load none (.t 31)⟩,
    ⟨(some 33), none, .len (.t 32)⟩,
    ⟨(some 34), none, .mkFn (.func 262) [] [(.t 2), (.t 3)]⟩,
    ⟨(some 35), none, .call (.c (.fn (.func 70) [] [])) [(.t 33), (.t 34)]⟩,
    ⟨(some 6), none, .move (.t 35)⟩])
  (.seq (.ops [⟨(some 36), none, .load none (.t 2)⟩,
    ⟨(some 37), none, .nilCheck (.t 36)⟩,
    ⟨(some 38), none, .faddr 0 (.t 37)⟩,
    ⟨(some 39), none, .load none (.t 38)⟩,
    ⟨(some 40), none, .move (.t 6)⟩,
    ⟨(some 41), none, .bin .sub (.t 40) (.c (.sc (.int .i64 (1))))⟩,
    ⟨(some 42), none, .iaddrS 5 (.t 39) (.t 41)⟩,
    ⟨(some 43), none, .load (some 5) (.t 42)⟩,
    ⟨none, none, .store 5 (.t 4) (.t 43)⟩,
    ⟨(some 5), none, .move (.c (.sc (.int .i64 (0))))⟩])
  (.ret)))),
  [.c 4 (some 5), .t 5]⟩
theorem ok187 : EntryOk Tryz.prog 187 af187 := ⟨Tryz.f187, _, Tryz.func187, by decide, rfl, by kernel_rfl, by kernel_rfl, rfl⟩
/-- hemiola/key.isStep -/
noncomputable def af191 : AF := ⟨9, .seq (.ops [⟨(some 2), none, .move (.c (.sc (.bool false)))⟩])
  (.seq (.ops [⟨(some 3), none, .move (.t 0)⟩,
    ⟨(some 4), none, .bin .geq (.t 3) (.c (.sc (.int .i64 (0))))⟩,
    ⟨(some 5), none, .move (.t 4)⟩,
    ⟨(some 6), (some (5, true)), .move (.t 0)⟩,
    ⟨(some 7), (some (5, true)), .bin .leq (.t 6) (.c (.sc (.int .i64 (6))))⟩,
    ⟨(some 8), none, .pick (.t 5) (.t 7) (.c (.sc (.bool false)))⟩,
    ⟨(some 2), none, .move (.t 8)⟩])
  (.ret)),
  [.t 2]⟩
theorem ok191 : EntryOk Tryz.prog 191 af191 := ⟨Tryz.f191, _, Tryz.func191, by decide, rfl, by kernel_rfl, by kernel_rfl, rfl⟩
/-- math/bits.Len64 -/
noncomputable def af203 : AF := ⟨25, .seq (.ops [⟨(some 2), none, .move (.c (.sc (.int .i64 (0))))⟩])
  (.seq (.seq (.ops [⟨(some 3), none, .move (.t 0)⟩,
    ⟨(some 4), none, .bin .geq (.t 3) (.c (.sc (.int .u64 (4294967296))))⟩])
  (.cond (.t 4)
   (.seq (.ops [⟨(some 5), none, .move (.t 0)⟩,
     ⟨(some 6), none, .bin .shr (.t 5) (.c (.sc (.int .u64 (32))))⟩,
     ⟨(some 0), none, .move (.t 6)⟩])
   (.ops [⟨(some 2), none, .move (.c (.sc (.int .i64 (32))))⟩]))
   (.skip)))
  (.seq (.seq (.ops [⟨(some 7), none, .move (.t 0)⟩,
    ⟨(some 8), none, .bin .geq (.t 7) (.c (.sc (.int .u64 (65536))))⟩])
  (.cond (.t 8)
   (.seq (.ops [⟨(some 9), none, .move (.t 0)⟩,
     ⟨(some 10), none, .bin .shr (.t 9) (.c (.sc (.int .u64 (16))))⟩,
     ⟨(some 0), none, .move (.t 10)⟩])
   (.ops [⟨(some 11), none, .move (.t 2)⟩,
     ⟨(some 12), none, .bin .add (.t 11) (.c (.sc (.int .i64 (16))))⟩,
     ⟨(some 2), none, .move (.t 12)⟩]))
   (.skip)))
  (.seq (.seq (.ops [⟨(some 13), none, .move (.t 0)⟩,
    ⟨(some 14), none, .bin .geq (.t 13) (.c (.sc (.int .u64 (256))))⟩])
  (.cond (.t 14)
   (.seq (.ops [⟨(some 15), none, .move (.t 0)⟩,
     ⟨(some 16), none, .bin .shr (.t 15) (.c (.sc (.int .u64 (8))))⟩,
     ⟨(some 0), none, .move (.t 16)⟩])
   (.ops [⟨(some 17), none, .move (.t 2)⟩,
     ⟨(some 18), none, .bin .add (.t 17) (.c (.sc (.int .i64 (8))))⟩,
     ⟨(some 2), none, .move (.t 18)⟩]))
   (.skip)))
  (.seq (.ops [⟨(some 19), none, .move (.t 2)⟩,
    ⟨(some 20), none, .move (.t 0)⟩,
    ⟨(some 21), none, .convI .u8 (.t 20)⟩,
    ⟨(some 22), none, .idxStr (.c (.sc (.string ⟨#[0, 1, 2, 2, 3, 3, 3, 3, 4, 4, 4, 4, 4, 4, 4, 4, 5, 5, 5, 5, 5, 5, 5, 5, 5, 5, 5, 5, 5, 5, 5, 5, 6, 6, 6, 6, 6, 6, 6, 6, 6, 6, 6, 6, 6, 6, 6, 6, 6, 6, 6, 6, 6, 6, 6, 6, 6, 6, 6, 6, 6, 6, 6, 6, 7, 7, 7, 7, 7, 7, 7, 7, 7, 7, 7, 7, 7, 7, 7, 7, 7, 7, 7, 7, 7, 7, 7, 7, 7, 7, 7, 7, 7, 7, 7, 7, 7, 7, 7, 7, 7, 7, 7, 7, 7, 7, 7, 7, 7, 7, 7, 7, 7, 7, 7, 7, 7, 7, 7, 7, 7, 7, 7, 7, 7, 7, 7, 7, 8, 8, 8, 8, 8, 8, 8, 8, 8, 8, 8, 8, 8, 8, 8, 8, 8, 8, 8, 8, 8, 8, 8, 8, 8, 8, 8, 8, 8, 8, 8, 8, 8, 8, 8, 8, 8, 8, 8, 8, 8, 8, 8, 8, 8, 8, 8, 8, 8, 8, 8, 8, 8, 8, 8, 8, 8, 8, 8, 8, 8, 8, 8, 8, 8, 8, 8, 8, 8, 8, 8, 8, 8, 8, 8, 8, 8, 8, 8, 8, 8, 8, 8, 8, 8, 8, 8, 8, 8, 8, 8, 8, 8, 8, 8, 8, 8, 8, 8, 8, 8, 8, 8, 8, 8, 8, 8, 8, 8, 8, 8, 8, 8, 8, 8, 8, 8, 8, 8, 8, 8, 8, 8, 8, 8, 8, 8, 8]⟩))) (.t 21)⟩,
    ⟨(some 23), none, .convI .i64 (.t 22)⟩,
    ⟨(some 24), none, .bin .add (.t 19) (.t 23)⟩,
    ⟨(some 2), none, .move (.t 24)⟩])
  (.ret))))),
  [.t 2]⟩
theorem ok203 : EntryOk Tryz.prog 203 af203 := ⟨Tryz.f203, _, Tryz.func203, by decide, rfl, by kernel_rfl, by kernel_rfl, rfl⟩
/-- hemiola/clef.of -/
noncomputable def af210 : AF := ⟨15, .seq (.ops [⟨(some 2), none, .alloc [(.sc (.string ⟨#[]⟩)), (.sc (.int .u8 (0))), (.sc (.int .i64 (0))), (.sc (.int .i64 (0))), (.sc (.int .i64 (0))), (.sc (.int .i64 (0))), (.sc (.int .i64 (0)))]⟩,
    ⟨(some 3), none, .move (.c (.sc (.int .i64 (0))))⟩])
  (.seq (.seq (.ops [⟨(some 4), none, .move (.t 0)⟩,
    ⟨(some 5), none, .bin .lss (.t 4) (.c (.sc (.int .i64 (1))))⟩,
    ⟨(some 6), none, .move (.t 5)⟩,
    ⟨(some 7), (some (6, false)), .move (.t 0)⟩,
    ⟨(some 8), (some (6, false)), .bin .gtr (.t 7) (.c (.sc (.int .i64 (9))))⟩,
    ⟨(some 9), none, .pick (.t 6) (.c (.sc (.bool true))) (.t 8)⟩])
  (.cond (.t 9)
   (.seq (.ops [⟨(some 10), none, .build [(.sc (.string ⟨#[]⟩)), (.sc (.int .u8 (0))), (.sc (.int .i64 (0))), (.sc (.int .i64 (0))), (.sc (.int .i64 (0))), (.sc (.int .i64 (0))), (.sc (.int .i64 (0)))] []⟩,
     ⟨none, none, .store 7 (.t 2) (.t 10)⟩,
     ⟨(some 3), none, .move (.c (.sc (.int .i64 (11))))⟩])
   (.ret))
   (.skip)))
  (.seq (.ops [⟨(some 11), none, .call (.c (.fn (.func 273) [] [])) []⟩,
    ⟨(some 12), none, .move (.t 0)⟩,
    ⟨(some 13), none, .bin .sub (.t 12) (.c (.sc (.int .i64 (1))))⟩,
    ⟨(some 14), none, .idxA 7 9 (some 7) (.t 11) (.t 13)⟩,
    ⟨none, none, .store 7 (.t 2) (.t 14)⟩,
    ⟨(some 3), none, .move (.c (.sc (.int .i64 (0))))⟩])
  (.ret))),
  [.c 2 (some 7), .t 3]⟩
theorem ok210 : EntryOk Tryz.prog 210 af210 := ⟨Tryz.f210, _, Tryz.func210, by decide, rfl, by kernel_rfl, by kernel_rfl, rfl⟩
/-- (*hemiola/check.checker).filled$1$2 -/
noncomputable def af214 : AF := ⟨10, .seq (.ops [⟨(some 4), none, .box (.t 0)⟩,
    ⟨(some 5), none, .move (.c (.sc (.bool false)))⟩])
  (.seq (.ops [⟨(some 6), none, .faddr 1 (.t 4)⟩,
    ⟨(some 7), none, .load none (.t 6)⟩,
    ⟨(some 8), none, .mkFn (.func 216) [] [(.t 1), (.t 2), (.t 3)]⟩,
    ⟨(some 9), none, .call (.c (.fn (.func 215) [] [])) [(.t 7), (.t 8)]⟩,
    ⟨(some 5), none, .move (.t 9)⟩])
  (.ret)),
  [.t 5]⟩
theorem ok214 : EntryOk Tryz.prog 214 af214 := ⟨Tryz.f214, _, Tryz.func214, by decide, rfl, by kernel_rfl, by kernel_rfl, rfl⟩
/-- hemiola/voice.Check -/
noncomputable def af218 : AF := ⟨14, .seq (.ops [⟨(some 2), none, .box (.t 0)⟩,
    ⟨(some 4), none, .move (.c (.sc (.int .i64 (0))))⟩])
  (.seq (.ops [⟨(some 8), none, .load (some 2) (.t 2)⟩,
    ⟨(some 9), none, .move (.t 1)⟩,
    ⟨(some 10), none, .call (.c (.fn (.func 108) [] [])) [(.t 8), (.t 9)]⟩,
    ⟨(some 7), none, .move (.t 10)⟩,
    ⟨(some 11), none, .extract 0 (.t 7)⟩,
    ⟨(some 12), none, .extract 1 (.t 7)⟩,
    ⟨(some 5), none, .move (.t 11)⟩,
    ⟨(some 6), none, .move (.t 12)⟩])
  (.seq (.ops [⟨(some 13), none, .move (.t 6)⟩,
    ⟨(some 4), none, .move (.t 13)⟩])
  (.ret))),
  [.t 4]⟩
theorem ok218 : EntryOk Tryz.prog 218 af218 := ⟨Tryz.f218, _, Tryz.func218, by decide, rfl, by kernel_rfl, by kernel_rfl, rfl⟩
/-- hemiola/event.Same -/
noncomputable def af222 : AF := ⟨73, .seq (.ops [⟨(some 2), none, .box (.t 0)⟩,
    ⟨(some 3), none, .box (.t 1)⟩,
    ⟨(some 4), none, .move (.c (.sc (.bool false)))⟩])
  (.seq (.ops [⟨(some 5), none, .faddr 2 (.t 2)⟩,
    ⟨(some 6), none, .load none (.t 5)⟩,
    ⟨(some 7), none, .faddr 2 (.t 3)⟩,
    ⟨(some 8), none, .load none (.t 7)⟩,
    ⟨(some 9), none, .bin .eql (.t 6) (.t 8)⟩,
    ⟨(some 10), none, .move (.t 9)⟩,
    ⟨(some 11), (some (10, true)), .faddr 3 (.t 2)⟩,
    ⟨(some 12), (some (10, true)), .load (some 2) (.t 11)⟩,
    ⟨(some 13), (some (10, true)), .faddr 3 (.t 3)⟩,
    ⟨(some 14), (some (10, true)), .load (some 2) (.t 13)⟩,
    ⟨(some 15), (some (10, true)), .eqC [.i, .i] false (.t 12) (.t 14)⟩,
    ⟨(some 16), none, .pick (.t 10) (.t 15) (.c (.sc (.bool false)))⟩,
    ⟨(some 17), none, .move (.t 16)⟩,
    ⟨(some 18), (some (17, true)), .faddr 7 (.t 2)⟩,
    ⟨(some 19), (some (17, true)), .load none (.t 18)⟩,
    ⟨(some 20), (some (17, true)), .faddr 7 (.t 3)⟩,
    ⟨(some 21), (some (17, true)), .load none (.t 20)⟩,
    ⟨(some 22), (some (17, true)), .bin .eql (.t 19) (.t 21)⟩,
    ⟨(some 23), none, .pick (.t 17) (.t 22) (.c (.sc (.bool false)))⟩,
    ⟨(some 24), none, .move (.t 23)⟩,
    ⟨(some 25), (some (24, true)), .faddr 8 (.t 2)⟩,
    ⟨(some 26), (some (24, true)), .load none (.t 25)⟩,
    ⟨(some 27), (some (24, true)), .faddr 8 (.t 3)⟩,
    ⟨(some 28), (some (24, true)), .load none (.t 27)⟩,
    ⟨(some 29), (some (24, true)), .bin .eql (.t 26) (.t 28)⟩,
    ⟨(some 30), none, .pick (.t 24) (.t 29) (.c (.sc (.bool false)))⟩,
    ⟨(some 31), none, .move (.t 30)⟩,
    ⟨(some 32), (some (31, true)), .faddr 9 (.t 2)⟩,
    ⟨(some 33), (some (31, true)), .load none (.t 32)⟩,
    ⟨(some 34), (some (31, true)), .faddr 9 (.t 3)⟩,
    ⟨(some 35), (some (31, true)), .load none (.t 34)⟩,
    ⟨(some 36), (some (31, true)), .bin .eql (.t 33) (.t 35)⟩,
    ⟨(some 37), none, .pick (.t 31) (.t 36) (.c (.sc (.bool false)))⟩,
    ⟨(some 38), none, .move (.t 37)⟩,
    ⟨(some 39), (some (38, true)), .faddr 11 (.t 2)⟩,
    ⟨(some 40), (some (38, true)), .load none (.t 39)⟩,
    ⟨(some 41), (some (38, true)), .faddr 11 (.t 3)⟩,
    ⟨(some 42), (some (38, true)), .load none (.t 41)⟩,
    ⟨(some 43), (some (38, true)), .bin .eql (.t 40) (.t 42)⟩,
    ⟨(some 44), none, .pick (.t 38) (.t 43) (.c (.sc (.bool false)))⟩,
    ⟨(some 45), none, .move (.t 44)⟩,
    ⟨(some 46), (some (45, true)), .faddr 12 (.t 2)⟩,
    ⟨(some 47), (some (45, true)), .load none (.t 46)⟩,
    ⟨(some 48), (some (45, true)), .faddr 12 (.t 3)⟩,
    ⟨(some 49), (some (45, true)), .load none (.t 48)⟩,
    ⟨(some 50), (some (45, true)), .bin .eql (.t 47) (.t 49)⟩,
    ⟨(some 51), none, .pick (.t 45) (.t 50) (.c (.sc (.bool false)))⟩,
    ⟨(some 52), none, .move (.t 51)⟩,
    ⟨(some 53), (some (52, true)), .faddr 5 (.t 2)⟩,
    ⟨(some 54), (some (52, true)), .load none (.t 53)⟩,
    ⟨(some 55), (some (52, true)), .faddr 5 (.t 3)⟩,
    ⟨(some 56), (some (52, true)), .load none (.t 55)⟩,
    ⟨(some 57), (some (52, true)), .call (.c (.fn (.func 277) [] [])) [(.t 54), (.t 56)]⟩,
    ⟨(some 58), none, .pick (.t 52) (.t 57) (.c (.sc (.bool false)))⟩,
    ⟨(some 59), none, .move (.t 58)⟩,
    ⟨(some 60), (some (59, true)), .faddr 6 (.t 2)⟩,
    ⟨(some 61), (some (59, true)), .load none (.t 60)⟩,
    ⟨(some 62), (some (59, true)), .faddr 6 (.t 3)⟩,
    ⟨(some 63), (some (59, true)), .load none (.t 62)⟩,
    ⟨(some 64), (some (59, true)), .call (.c (.fn (.func 278) [] [])) [(.t 61), (.t 63)]⟩,
    ⟨(some 65), none, .pick (.t 59) (.t 64) (.c (.sc (.bool false)))⟩,
    ⟨(some 66), none, .move (.t 65)⟩,
    ⟨(some 67), (some (66, true)), .faddr 10 (.t 2)⟩,
    ⟨(some 68), (some (66, true)), .load none (.t 67)⟩,
    ⟨(some 69), (some (66, true)), .faddr 10 (.t 3)⟩,
    ⟨(some 70), (some (66, true)), .load none (.t 69)⟩,
    ⟨(some 71), (some (66, true)), .call (.c (.fn (.func 279) [] [])) [(.t 68), (.t 70)]⟩,
    ⟨(some 72), none, .pick (.t 66) (.t 71) (.c (.sc (.bool false)))⟩,
    ⟨(some 4), none, .move (.t 72)⟩])
  (.ret)),
  [.t 4]⟩
theorem ok222 : EntryOk Tryz.prog 222 af222 := ⟨Tryz.f222, _, Tryz.func222, by decide, rfl, by kernel_rfl, by kernel_rfl, rfl⟩
/-- hemiola/event.CheckLyrics -/
noncomputable def af226 : AF := ⟨34, .seq (.ops [⟨(some 2), none, .move (.c (.sc (.int .i64 (0))))⟩])
  (.seq (.seq (.ops [⟨(some 7), none, .move (.t 0)⟩,
    ⟨(some 8), none, .len (.t 7)⟩,
    ⟨(some 9), none, .bin .gtr (.t 8) (.c (.sc (.int .i64 (4))))⟩])
  (.cond (.t 9)
   (.seq (.ops [⟨(some 2), none, .move (.c (.sc (.int .i64 (9))))⟩])
   (.ret))
   (.skip)))
  (.seq (.seq (.ops [⟨(some 10), none, .move (.t 0)⟩,
    ⟨(some 11), none, .len (.t 10)⟩,
    ⟨(some 12), none, .move (.c (.sc (.int .i64 (0))))⟩])
  (.block 0 (.loop (.seq (.ops [⟨(some 13), none, .bin .lss (.t 12) (.t 11)⟩])
    (.seq (.cond (.t 13)
     (.skip)
     (.exit 0))
    (.seq (.block 1 (.seq (.ops [⟨(some 14), none, .iaddrS 2 (.t 10) (.t 12)⟩,
       ⟨(some 15), none, .load (some 2) (.t 14)⟩,
       ⟨(some 4), none, .alloc [(.sc (.string ⟨#[]⟩)), (.sc (.int .i64 (0)))]⟩,
       ⟨none, none, .store 2 (.t 4) (.t 15)⟩])
     (.seq (.ops [⟨(some 16), none, .load (some 2) (.t 4)⟩,
       ⟨(some 17), none, .call (.c (.fn (.func 282) [] [])) [(.t 16)]⟩,
       ⟨(some 5), none, .move (.t 17)⟩])
     (.seq (.ops [⟨(some 18), none, .move (.t 5)⟩,
       ⟨(some 19), none, .bin .neq (.t 18) (.c (.sc (.int .i64 (0))))⟩])
     (.cond (.t 19)
      (.seq (.ops [⟨(some 20), none, .move (.t 5)⟩,
        ⟨(some 2), none, .move (.t 20)⟩])
      (.ret))
      (.skip))))))
    (.ops [⟨(some 21), none, .bin .add (.t 12) (.c (.sc (.int .i64 (1))))⟩,
      ⟨(some 12), none, .move (.t 21)⟩])))))))
  (.seq (.seq (.ops [⟨(some 22), none, .move (.t 0)⟩,
    ⟨(some 23), none, .len (.t 22)⟩,
    ⟨(some 6), none, .move (.t 23)⟩])
  (.seq (.ops [⟨(some 24), none, .move (.t 6)⟩,
    ⟨(some 25), none, .bin .gtr (.t 24) (.c (.sc (.int .i64 (0))))⟩,
    ⟨(some 26), none, .move (.t 25)⟩,
    ⟨(some 27), (some (26, true)), .move (.t 0)⟩,
    ⟨(some 28), (some (26, true)), .move (.t 6)⟩,
    ⟨(some 29), (some (26, true)), .bin .sub (.t 28) (.c (.sc (.int .i64 (1))))⟩,
    ⟨(some 30), (some (26, true)), .iaddrS 2 (.t 27) (.t 29)⟩,
    ⟨(some 31), (some (26, true)), .load (some 2) (.t 30)⟩,
    ⟨(some 32), (some (26, true)), .call (.c (.fn (.func 283) [] [])) [(.t 31)]⟩,
    ⟨(some 33), none, .pick (.t 26) (.t 32) (.c (.sc (.bool false)))⟩])
  (.cond (.t 33)
   (.seq (.ops [⟨(some 2), none, .move (.c (.sc (.int .i64 (3))))⟩])
   (.ret))
   (.skip))))
  (.seq (.ops [⟨(some 2), none, .move (.c (.sc (.int .i64 (0))))⟩])
  (.ret))))),
  [.t 2]⟩
theorem ok226 : EntryOk Tryz.prog 226 af226 := ⟨Tryz.f226, _, Tryz.func226, by decide, rfl, by kernel_rfl, by kernel_rfl, rfl⟩
/-- hemiola/score.check -/
noncomputable def af230 : AF := ⟨25, .seq (.ops [⟨(some 2), none, .box (.t 0)⟩,
    ⟨(some 3), none, .box (.t 1)⟩,
    ⟨(some 4), none, .move (.c (.sc (.int .i64 (0))))⟩])
  (.seq (.seq (.ops [⟨(some 5), none, .faddr 0 (.t 3)⟩,
    ⟨(some 6), none, .load none (.t 5)⟩,
    ⟨(some 7), none, .bin .neq (.t 6) (.c (.sc (.int .i64 (4))))⟩])
  (.cond (.t 7)
   (.seq (.ops [⟨(some 4), none, .move (.c (.sc (.int .i64 (11))))⟩])
   (.ret))
   (.skip)))
  (.seq (.seq (.draw [⟨true, [3], [], ⟨(some 8), none, .faddr 5 (.t 3)⟩⟩,
    ⟨true, [8], [], ⟨(some 9), none, .load none (.t 8)⟩⟩,
    ⟨true, [9], [], ⟨(some 10), none, .bin .lss (.t 9) (.c (.sc (.int .i64 (0))))⟩⟩,
    ⟨true, [10], [], ⟨(some 11), none, .move (.t 10)⟩⟩,
    ⟨false, [3, 11], [], ⟨(some 12), (some (11, false)), .faddr 5 (.t 3)⟩⟩,
    ⟨false, [12, 11], [13], ⟨(some 13), (some (11, false)), .load none (.t 12)⟩⟩,
    ⟨false, [2, 11], [], ⟨(some 14), (some (11, false)), .load (some 6) (.t 2)⟩⟩,
    ⟨false, [3, 11], [], ⟨(some 15), (some (11, false)), .faddr 3 (.t 3)⟩⟩,
    ⟨false, [15, 11], [], ⟨(some 16), (some (11, false)), .load none (.t 15)⟩⟩,
    ⟨false, [3, 11], [], ⟨(some 17), (some (11, false)), .faddr 2 (.t 3)⟩⟩,
    ⟨false, [17, 11], [], ⟨(some 18), (some (11, false)), .load none (.t 17)⟩⟩,
    ⟨false, [3, 11], [], ⟨(some 19), (some (11, false)), .faddr 4 (.t 3)⟩⟩,
    ⟨false, [19, 11], [], ⟨(some 20), (some (11, false)), .load none (.t 19)⟩⟩,
    ⟨true, [14, 16, 18, 20, 11], [], ⟨(some 21), (some (11, false)), .call (.c (.fn (.func 231) [] [])) [(.t 14), (.t 16), (.t 18), (.t 20)]⟩⟩,
    ⟨false, [21, 11], [], ⟨(some 22), (some (11, false)), .len (.t 21)⟩⟩]
    [⟨(some 23), (some (11, false)), .bin .geq (.t 13) (.t 22)⟩,
    ⟨(some 24), none, .pick (.t 11) (.c (.sc (.bool true))) (.t 23)⟩])
  (.cond (.t 24)
   (.seq (.ops [⟨(some 4), none, .move (.c (.sc (.int .i64 (2))))⟩])
   (.ret))
   (.skip)))
  (.seq (.ops [⟨(some 4), none, .move (.c (.sc (.int .i64 (0))))⟩])
  (.ret)))),
  [.t 4]⟩
theorem ok230 : EntryOk Tryz.prog 230 af230 := ⟨Tryz.f230, _, Tryz.func230, by decide, rfl, by kernel_rfl, by kernel_rfl, rfl⟩
/-- hemiola/measure.present -/
noncomputable def af251 : AF := ⟨7, .seq (.ops [⟨(some 1), none, .box (.t 0)⟩,
    ⟨(some 2), none, .move (.c (.sc (.bool false)))⟩])
  (.seq (.ops [⟨(some 3), none, .faddr 0 (.t 1)⟩,
    ⟨(some 4), none, .load none (.t 3)⟩,
    ⟨(some 5), none, .len (.t 4)⟩,
    ⟨(some 6), none, .bin .gtr (.t 5) (.c (.sc (.int .i64 (0))))⟩,
    ⟨(some 2), none, .move (.t 6)⟩])
  (.ret)),
  [.t 2]⟩
theorem ok251 : EntryOk Tryz.prog 251 af251 := ⟨Tryz.f251, _, Tryz.func251, by decide, rfl, by kernel_rfl, by kernel_rfl, rfl⟩
/-- math/bits.Mul64 -/
noncomputable def af255 : AF := ⟨51, .seq (.ops [⟨(some 4), none, .move (.c (.sc (.int .u64 (0))))⟩,
    ⟨(some 5), none, .move (.c (.sc (.int .u64 (0))))⟩])
  (.seq (.ops [⟨(some 14), none, .move (.t 0)⟩,
    ⟨(some 15), none, .bin .and (.t 14) (.c (.sc (.int .u64 (4294967295))))⟩,
    ⟨(some 6), none, .move (.t 15)⟩])
  (.seq (.ops [⟨(some 16), none, .move (.t 0)⟩,
    ⟨(some 17), none, .bin .shr (.t 16) (.c (.sc (.int .u64 (32))))⟩,
    ⟨(some 7), none, .move (.t 17)⟩])
  (.seq (.ops [⟨(some 18), none, .move (.t 1)⟩,
    ⟨(some 19), none, .bin .and (.t 18) (.c (.sc (.int .u64 (4294967295))))⟩,
    ⟨(some 8), none, .move (.t 19)⟩])
  (.seq (.ops [⟨(some 20), none, .move (.t 1)⟩,
    ⟨(some 21), none, .bin .shr (.t 20) (.c (.sc (.int .u64 (32))))⟩,
    ⟨(some 9), none, .move (.t 21)⟩])
  (.seq (.ops [⟨(some 22), none, .move (.t 6)⟩,
    ⟨(some 23), none, .move (.t 8)⟩,
    ⟨(some 24), none, .bin .mul (.t 22) (.t 23)⟩,
    ⟨(some 10), none, .move (.t 24)⟩])
  (.seq (.ops [⟨(some 25), none, .move (.t 7)⟩,
    ⟨(some 26), none, .move (.t 8)⟩,
    ⟨(some 27), none, .bin .mul (.t 25) (.t 26)⟩,
    ⟨(some 28), none, .move (.t 10)⟩,
    ⟨(some 29), none, .bin .shr (.t 28) (.c (.sc (.int .u64 (32))))⟩,
    ⟨(some 30), none, .bin .add (.t 27) (.t 29)⟩,
    ⟨(some 11), none, .move (.t 30)⟩])
  (.seq (.ops [⟨(some 31), none, .move (.t 11)⟩,
    ⟨(some 32), none, .bin .and (.t 31) (.c (.sc (.int .u64 (4294967295))))⟩,
    ⟨(some 12), none, .move (.t 32)⟩])
  (.seq (.ops [⟨(some 33), none, .move (.t 11)⟩,
    ⟨(some 34), none, .bin .shr (.t 33) (.c (.sc (.int .u64 (32))))⟩,
    ⟨(some 13), none, .move (.t 34)⟩])
  (.seq (.ops [⟨(some 35), none, .move (.t 12)⟩,
    ⟨(some 36), none, .move (.t 6)⟩,
    ⟨(some 37), none, .move (.t 9)⟩,
    ⟨(some 38), none, .bin .mul (.t 36) (.t 37)⟩,
    ⟨(some 39), none, .bin .add (.t 35) (.t 38)⟩,
    ⟨(some 12), none, .move (.t 39)⟩])
  (.seq (.ops [⟨(some 40), none, .move (.t 7)⟩,
    ⟨(some 41), none, .move (.t 9)⟩,
    ⟨(some 42), none, .bin .mul (.t 40) (.t 41)⟩,
    ⟨(some 43), none, .move (.t 13)⟩,
    ⟨(some 44), none, .bin .add (.t 42) (.t 43)⟩,
    ⟨(some 45), none, .move (.t 12)⟩,
    ⟨(some 46), none, .bin .shr (.t 45) (.c (.sc (.int .u64 (32))))⟩,
    ⟨(some 47), none, .bin .add (.t 44) (.t 46)⟩,
    ⟨(some 4), none, .move (.t 47)⟩])
  (.seq (.ops [⟨(some 48), none, .move (.t 0)⟩,
    ⟨(some 49), none, .move (.t 1)⟩,
    ⟨(some 50), none, .bin .mul (.t 48) (.t 49)⟩,
    ⟨(some 5), none, .move (.t 50)⟩])
  (.ret)))))))))))),
  [.t 4, .t 5]⟩
theorem ok255 : EntryOk Tryz.prog 255 af255 := ⟨Tryz.f255, _, Tryz.func255, by decide, rfl, by kernel_rfl, by kernel_rfl, rfl⟩
/-- hemiola/voice.whole -/
noncomputable def af259 : AF := ⟨15, .seq (.ops [⟨(some 1), none, .box (.t 0)⟩,
    ⟨(some 2), none, .move (.c (.sc (.bool false)))⟩])
  (.seq (.ops [⟨(some 3), none, .faddr 0 (.t 1)⟩,
    ⟨(some 4), none, .load none (.t 3)⟩,
    ⟨(some 5), none, .len (.t 4)⟩,
    ⟨(some 6), none, .bin .gtr (.t 5) (.c (.sc (.int .i64 (0))))⟩,
    ⟨(some 7), none, .move (.t 6)⟩,
    ⟨(some 8), (some (7, true)), .faddr 0 (.t 1)⟩,
    ⟨(some 9), (some (7, true)), .load none (.t 8)⟩,
    ⟨(some 10), (some (7, true)), .iaddrS 13 (.t 9) (.c (.sc (.int .i64 (0))))⟩,
    ⟨(some 11), (some (7, true)), .faddr 2 (.t 10)⟩,
    ⟨(some 12), (some (7, true)), .load none (.t 11)⟩,
    ⟨(some 13), (some (7, true)), .bin .eql (.t 12) (.c (.sc (.int .i64 (3))))⟩,
    ⟨(some 14), none, .pick (.t 7) (.t 13) (.c (.sc (.bool false)))⟩,
    ⟨(some 2), none, .move (.t 14)⟩])
  (.ret)),
  [.t 2]⟩
theorem ok259 : EntryOk Tryz.prog 259 af259 := ⟨Tryz.f259, _, Tryz.func259, by decide, rfl, by kernel_rfl, by kernel_rfl, rfl⟩
/-- hemiola/pitch.semitones -/
noncomputable def af263 : AF := ⟨2, .seq (.ops [⟨(some 0), none, .alloc [(.sc (.int .i64 (0))), (.sc (.int .i64 (0))), (.sc (.int .i64 (0))), (.sc (.int .i64 (0))), (.sc (.int .i64 (0))), (.sc (.int .i64 (0))), (.sc (.int .i64 (0)))]⟩])
  (.seq (.ops [⟨(some 1), none, .build [(.sc (.int .i64 (0))), (.sc (.int .i64 (0))), (.sc (.int .i64 (0))), (.sc (.int .i64 (0))), (.sc (.int .i64 (0))), (.sc (.int .i64 (0))), (.sc (.int .i64 (0)))] [((0, 1), (.c (.sc (.int .i64 (0))))), ((1, 1), (.c (.sc (.int .i64 (2))))), ((2, 1), (.c (.sc (.int .i64 (4))))), ((3, 1), (.c (.sc (.int .i64 (5))))), ((4, 1), (.c (.sc (.int .i64 (7))))), ((5, 1), (.c (.sc (.int .i64 (9))))), ((6, 1), (.c (.sc (.int .i64 (11)))))]⟩,
    ⟨none, none, .store 7 (.t 0) (.t 1)⟩])
  (.ret)),
  [.c 0 (some 7)]⟩
theorem ok263 : EntryOk Tryz.prog 263 af263 := ⟨Tryz.f263, _, Tryz.func263, by decide, rfl, by kernel_rfl, by kernel_rfl, rfl⟩
/-- hemiola/clef.kinds -/
noncomputable def af273 : AF := ⟨11, .seq (.ops [⟨(some 0), none, .alloc [(.sc (.string ⟨#[]⟩)), (.sc (.int .u8 (0))), (.sc (.int .i64 (0))), (.sc (.int .i64 (0))), (.sc (.int .i64 (0))), (.sc (.int .i64 (0))), (.sc (.int .i64 (0))), (.sc (.string ⟨#[]⟩)), (.sc (.int .u8 (0))), (.sc (.int .i64 (0))), (.sc (.int .i64 (0))), (.sc (.int .i64 (0))), (.sc (.int .i64 (0))), (.sc (.int .i64 (0))), (.sc (.string ⟨#[]⟩)), (.sc (.int .u8 (0))), (.sc (.int .i64 (0))), (.sc (.int .i64 (0))), (.sc (.int .i64 (0))), (.sc (.int .i64 (0))), (.sc (.int .i64 (0))), (.sc (.string ⟨#[]⟩)), (.sc (.int .u8 (0))), (.sc (.int .i64 (0))), (.sc (.int .i64 (0))), (.sc (.int .i64 (0))), (.sc (.int .i64 (0))), (.sc (.int .i64 (0))), (.sc (.string ⟨#[]⟩)), (.sc (.int .u8 (0))), (.sc (.int .i64 (0))), (.sc (.int .i64 (0))), (.sc (.int .i64 (0))), (.sc (.int .i64 (0))), (.sc (.int .i64 (0))), (.sc (.string ⟨#[]⟩)), (.sc (.int .u8 (0))), (.sc (.int .i64 (0))), (.sc (.int .i64 (0))), (.sc (.int .i64 (0))), (.sc (.int .i64 (0))), (.sc (.int .i64 (0))), (.sc (.string ⟨#[]⟩)), (.sc (.int .u8 (0))), (.sc (.int .i64 (0))), (.sc (.int .i64 (0))), (.sc (.int .i64 (0))), (.sc (.int .i64 (0))), (.sc (.int .i64 (0))), (.sc (.string ⟨#[]⟩)), (.sc (.int .u8 (0))), (.sc (.int .i64 (0))), (.sc (.int .i64 (0))), (.sc (.int .i64 (0))), (.sc (.int .i64 (0))), (.sc (.int .i64 (0))), (.sc (.string ⟨#[]⟩)), (.sc (.int .u8 (0))), (.sc (.int .i64 (0))), (.sc (.int .i64 (0))), (.sc (.int .i64 (0))), (.sc (.int .i64 (0))), (.sc (.int .i64 (0)))]⟩])
  (.seq (.ops [⟨(some 1), none, .build [(.sc (.string ⟨#[]⟩)), (.sc (.int .u8 (0))), (.sc (.int .i64 (0))), (.sc (.int .i64 (0))), (.sc (.int .i64 (0))), (.sc (.int .i64 (0))), (.sc (.int .i64 (0)))] [((0, 1), (.c (.sc (.string ⟨#[116, 114, 101, 98, 108, 101]⟩)))), ((1, 1), (.c (.sc (.int .u8 (71))))), ((2, 1), (.c (.sc (.int .i64 (-2))))), ((3, 1), (.c (.sc (.int .i64 (0))))), ((4, 1), (.c (.sc (.int .i64 (34))))), ((5, 1), (.c (.sc (.int .i64 (-1))))), ((6, 1), (.c (.sc (.int .i64 (-3)))))]⟩,
    ⟨(some 2), none, .build [(.sc (.string ⟨#[]⟩)), (.sc (.int .u8 (0))), (.sc (.int .i64 (0))), (.sc (.int .i64 (0))), (.sc (.int .i64 (0))), (.sc (.int .i64 (0))), (.sc (.int .i64 (0)))] [((0, 1), (.c (.sc (.string ⟨#[98, 97, 115, 115]⟩)))), ((1, 1), (.c (.sc (.int .u8 (70))))), ((2, 1), (.c (.sc (.int .i64 (2))))), ((3, 1), (.c (.sc (.int .i64 (0))))), ((4, 1), (.c (.sc (.int .i64 (22))))), ((5, 1), (.c (.sc (.int .i64 (-3))))), ((6, 1), (.c (.sc (.int .i64 (-5)))))]⟩,
    ⟨(some 3), none, .build [(.sc (.string ⟨#[]⟩)), (.sc (.int .u8 (0))), (.sc (.int .i64 (0))), (.sc (.int .i64 (0))), (.sc (.int .i64 (0))), (.sc (.int .i64 (0))), (.sc (.int .i64 (0)))] [((0, 1), (.c (.sc (.string ⟨#[97, 108, 116, 111]⟩)))), ((1, 1), (.c (.sc (.int .u8 (67))))), ((2, 1), (.c (.sc (.int .i64 (0))))), ((3, 1), (.c (.sc (.int .i64 (0))))), ((4, 1), (.c (.sc (.int .i64 (28))))), ((5, 1), (.c (.sc (.int .i64 (-2))))), ((6, 1), (.c (.sc (.int .i64 (-4)))))]⟩,
    ⟨(some 4), none, .build [(.sc (.string ⟨#[]⟩)), (.sc (.int .u8 (0))), (.sc (.int .i64 (0))), (.sc (.int .i64 (0))), (.sc (.int .i64 (0))), (.sc (.int .i64 (0))), (.sc (.int .i64 (0)))] [((0, 1), (.c (.sc (.string ⟨#[116, 101, 110, 111, 114]⟩)))), ((1, 1), (.c (.sc (.int .u8 (67))))), ((2, 1), (.c (.sc (.int .i64 (2))))), ((3, 1), (.c (.sc (.int .i64 (0))))), ((4, 1), (.c (.sc (.int .i64 (26))))), ((5, 1), (.c (.sc (.int .i64 (-2))))), ((6, 1), (.c (.sc (.int .i64 (-2)))))]⟩,
    ⟨(some 5), none, .build [(.sc (.string ⟨#[]⟩)), (.sc (.int .u8 (0))), (.sc (.int .i64 (0))), (.sc (.int .i64 (0))), (.sc (.int .i64 (0))), (.sc (.int .i64 (0))), (.sc (.int .i64 (0)))] [((0, 1), (.c (.sc (.string ⟨#[115, 111, 112, 114, 97, 110, 111]⟩)))), ((1, 1), (.c (.sc (.int .u8 (67))))), ((2, 1), (.c (.sc (.int .i64 (-4))))), ((3, 1), (.c (.sc (.int .i64 (0))))), ((4, 1), (.c (.sc (.int .i64 (32))))), ((5, 1), (.c (.sc (.int .i64 (-2))))), ((6, 1), (.c (.sc (.int .i64 (-3)))))]⟩,
    ⟨(some 6), none, .build [(.sc (.string ⟨#[]⟩)), (.sc (.int .u8 (0))), (.sc (.int .i64 (0))), (.sc (.int .i64 (0))), (.sc (.int .i64 (0))), (.sc (.int .i64 (0))), (.sc (.int .i64 (0)))] [((0, 1), (.c (.sc (.string ⟨#[109, 101, 122, 122, 111, 115, 111, 112, 114, 97, 110, 111]⟩)))), ((1, 1), (.c (.sc (.int .u8 (67))))), ((2, 1), (.c (.sc (.int .i64 (-2))))), ((3, 1), (.c (.sc (.int .i64 (0))))), ((4, 1), (.c (.sc (.int .i64 (30))))), ((5, 1), (.c (.sc (.int .i64 (-2))))), ((6, 1), (.c (.sc (.int .i64 (-3)))))]⟩,
    ⟨(some 7), none, .build [(.sc (.string ⟨#[]⟩)), (.sc (.int .u8 (0))), (.sc (.int .i64 (0))), (.sc (.int .i64 (0))), (.sc (.int .i64 (0))), (.sc (.int .i64 (0))), (.sc (.int .i64 (0)))] [((0, 1), (.c (.sc (.string ⟨#[98, 97, 114, 105, 116, 111, 110, 101]⟩)))), ((1, 1), (.c (.sc (.int .u8 (70))))), ((2, 1), (.c (.sc (.int .i64 (0))))), ((3, 1), (.c (.sc (.int .i64 (0))))), ((4, 1), (.c (.sc (.int .i64 (24))))), ((5, 1), (.c (.sc (.int .i64 (-2))))), ((6, 1), (.c (.sc (.int .i64 (-3)))))]⟩,
    ⟨(some 8), none, .build [(.sc (.string ⟨#[]⟩)), (.sc (.int .u8 (0))), (.sc (.int .i64 (0))), (.sc (.int .i64 (0))), (.sc (.int .i64 (0))), (.sc (.int .i64 (0))), (.sc (.int .i64 (0)))] [((0, 1), (.c (.sc (.string ⟨#[116, 114, 101, 98, 108, 101, 56]⟩)))), ((1, 1), (.c (.sc (.int .u8 (71))))), ((2, 1), (.c (.sc (.int .i64 (-2))))), ((3, 1), (.c (.sc (.int .i64 (-1))))), ((4, 1), (.c (.sc (.int .i64 (27))))), ((5, 1), (.c (.sc (.int .i64 (-1))))), ((6, 1), (.c (.sc (.int .i64 (-3)))))]⟩,
    ⟨(some 9), none, .build [(.sc (.string ⟨#[]⟩)), (.sc (.int .u8 (0))), (.sc (.int .i64 (0))), (.sc (.int .i64 (0))), (.sc (.int .i64 (0))), (.sc (.int .i64 (0))), (.sc (.int .i64 (0)))] [((0, 1), (.c (.sc (.string ⟨#[98, 97, 115, 115, 56]⟩)))), ((1, 1), (.c (.sc (.int .u8 (70))))), ((2, 1), (.c (.sc (.int .i64 (2))))), ((3, 1), (.c (.sc (.int .i64 (-1))))), ((4, 1), (.c (.sc (.int .i64 (15))))), ((5, 1), (.c (.sc (.int .i64 (-3))))), ((6, 1), (.c (.sc (.int .i64 (-5)))))]⟩,
    ⟨(some 10), none, .build [(.sc (.string ⟨#[]⟩)), (.sc (.int .u8 (0))), (.sc (.int .i64 (0))), (.sc (.int .i64 (0))), (.sc (.int .i64 (0))), (.sc (.int .i64 (0))), (.sc (.int .i64 (0))), (.sc (.string ⟨#[]⟩)), (.sc (.int .u8 (0))), (.sc (.int .i64 (0))), (.sc (.int .i64 (0))), (.sc (.int .i64 (0))), (.sc (.int .i64 (0))), (.sc (.int .i64 (0))), (.sc (.string ⟨#[]⟩)), (.sc (.int .u8 (0))), (.sc (.int .i64 (0))), (.sc (.int .i64 (0))), (.sc (.int .i64 (0))), (.sc (.int .i64 (0))), (.sc (.int .i64 (0))), (.sc (.string ⟨#[]⟩)), (.sc (.int .u8 (0))), (.sc (.int .i64 (0))), (.sc (.int .i64 (0))), (.sc (.int .i64 (0))), (.sc (.int .i64 (0))), (.sc (.int .i64 (0))), (.sc (.string ⟨#[]⟩)), (.sc (.int .u8 (0))), (.sc (.int .i64 (0))), (.sc (.int .i64 (0))), (.sc (.int .i64 (0))), (.sc (.int .i64 (0))), (.sc (.int .i64 (0))), (.sc (.string ⟨#[]⟩)), (.sc (.int .u8 (0))), (.sc (.int .i64 (0))), (.sc (.int .i64 (0))), (.sc (.int .i64 (0))), (.sc (.int .i64 (0))), (.sc (.int .i64 (0))), (.sc (.string ⟨#[]⟩)), (.sc (.int .u8 (0))), (.sc (.int .i64 (0))), (.sc (.int .i64 (0))), (.sc (.int .i64 (0))), (.sc (.int .i64 (0))), (.sc (.int .i64 (0))), (.sc (.string ⟨#[]⟩)), (.sc (.int .u8 (0))), (.sc (.int .i64 (0))), (.sc (.int .i64 (0))), (.sc (.int .i64 (0))), (.sc (.int .i64 (0))), (.sc (.int .i64 (0))), (.sc (.string ⟨#[]⟩)), (.sc (.int .u8 (0))), (.sc (.int .i64 (0))), (.sc (.int .i64 (0))), (.sc (.int .i64 (0))), (.sc (.int .i64 (0))), (.sc (.int .i64 (0)))] [((0, 7), (.t 1)), ((7, 7), (.t 2)), ((14, 7), (.t 3)), ((21, 7), (.t 4)), ((28, 7), (.t 5)), ((35, 7), (.t 6)), ((42, 7), (.t 7)), ((49, 7), (.t 8)), ((56, 7), (.t 9))]⟩,
    ⟨none, none, .store 63 (.t 0) (.t 10)⟩])
  (.ret)),
  [.c 0 (some 63)]⟩
theorem ok273 : EntryOk Tryz.prog 273 af273 := ⟨Tryz.f273, _, Tryz.func273, by decide, rfl, by kernel_rfl, by kernel_rfl, rfl⟩
/-- slices.Equal[[]hemiola/api.Head,hemiola/api.Head] -/
noncomputable def af277 : AF := ⟨26, .seq (.ops [⟨(some 4), none, .move (.c (.sc (.bool false)))⟩])
  (.seq (.seq (.ops [⟨(some 6), none, .move (.t 0)⟩,
    ⟨(some 7), none, .len (.t 6)⟩,
    ⟨(some 8), none, .move (.t 1)⟩,
    ⟨(some 9), none, .len (.t 8)⟩,
    ⟨(some 10), none, .bin .neq (.t 7) (.t 9)⟩])
  (.cond (.t 10)
   (.seq (.ops [⟨(some 4), none, .move (.c (.sc (.bool false)))⟩])
   (.ret))
   (.skip)))
  (.seq (.seq (.ops [⟨(some 11), none, .move (.t 0)⟩,
    ⟨(some 12), none, .len (.t 11)⟩,
    ⟨(some 13), none, .move (.c (.sc (.int .i64 (0))))⟩])
  (.block 0 (.loop (.seq (.ops [⟨(some 14), none, .bin .lss (.t 13) (.t 12)⟩])
    (.seq (.cond (.t 14)
     (.skip)
     (.exit 0))
    (.seq (.block 1 (.seq (.ops [⟨(some 15), none, .move (.t 13)⟩,
       ⟨(some 5), none, .move (.t 15)⟩])
     (.seq (.draw [⟨false, [0], [], ⟨(some 16), none, .move (.t 0)⟩⟩,
       ⟨false, [5], [], ⟨(some 17), none, .move (.t 5)⟩⟩,
       ⟨false, [16, 17], [], ⟨(some 18), none, .iaddrS 5 (.t 16) (.t 17)⟩⟩,
       ⟨false, [18], [], ⟨(some 19), none, .load (some 5) (.t 18)⟩⟩,
       ⟨false, [1], [], ⟨(some 20), none, .move (.t 1)⟩⟩,
       ⟨false, [5], [], ⟨(some 21), none, .move (.t 5)⟩⟩,
       ⟨false, [20, 21], [], ⟨(some 22), none, .iaddrS 5 (.t 20) (.t 21)⟩⟩,
       ⟨false, [22], [], ⟨(some 23), none, .load (some 5) (.t 22)⟩⟩]
       [⟨(some 24), none, .eqC [.i, .i, .i, .b, .i] true (.t 19) (.t 23)⟩])
     (.cond (.t 24)
      (.seq (.ops [⟨(some 4), none, .move (.c (.sc (.bool false)))⟩])
      (.ret))
      (.skip)))))
    (.ops [⟨(some 25), none, .bin .add (.t 13) (.c (.sc (.int .i64 (1))))⟩,
      ⟨(some 13), none, .move (.t 25)⟩])))))))
  (.seq (.ops [⟨(some 4), none, .move (.c (.sc (.bool true)))⟩])
  (.ret)))),
  [.t 4]⟩
theorem ok277 : EntryOk Tryz.prog 277 af277 := ⟨Tryz.f277, _, Tryz.func277, by decide, rfl, by kernel_rfl, by kernel_rfl, rfl⟩
/-- slices.insertionSortCmpFunc[hemiola/api.Note] -/
noncomputable def af294 : AF := ⟨53, .seq (.ops [⟨(some 10), none, .move (.t 1)⟩,
    ⟨(some 11), none, .bin .add (.t 10) (.c (.sc (.int .i64 (1))))⟩,
    ⟨(some 8), none, .move (.t 11)⟩])
  (.block 0 (.loop (.seq (.seq (.ops [⟨(some 12), none, .move (.t 8)⟩,
      ⟨(some 13), none, .move (.t 2)⟩,
      ⟨(some 14), none, .bin .lss (.t 12) (.t 13)⟩])
    (.cond (.t 14)
     (.skip)
     (.exit 0)))
    (.seq (.block 1 (.seq (.ops [⟨(some 17), none, .move (.t 8)⟩,
       ⟨(some 9), none, .move (.t 17)⟩])
     (.block 2 (.loop (.seq (.seq (.draw [⟨true, [9], [], ⟨(some 18), none, .move (.t 9)⟩⟩,
         ⟨true, [1], [], ⟨(some 19), none, .move (.t 1)⟩⟩,
         ⟨true, [18, 19], [], ⟨(some 20), none, .bin .gtr (.t 18) (.t 19)⟩⟩,
         ⟨true, [20], [], ⟨(some 21), none, .move (.t 20)⟩⟩,
         ⟨false, [3, 21], [], ⟨(some 22), (some (21, true)), .move (.t 3)⟩⟩,
         ⟨false, [0, 21], [], ⟨(some 23), (some (21, true)), .move (.t 0)⟩⟩,
         ⟨false, [9, 21], [], ⟨(some 24), (some (21, true)), .move (.t 9)⟩⟩,
         ⟨false, [23, 24, 21], [], ⟨(some 25), (some (21, true)), .iaddrS 9 (.t 23) (.t 24)⟩⟩,
         ⟨false, [25, 21], [], ⟨(some 26), (some (21, true)), .load (some 9) (.t 25)⟩⟩,
         ⟨false, [0, 21], [], ⟨(some 27), (some (21, true)), .move (.t 0)⟩⟩,
         ⟨false, [9, 21], [], ⟨(some 28), (some (21, true)), .move (.t 9)⟩⟩,
         ⟨false, [28, 21], [], ⟨(some 29), (some (21, true)), .bin .sub (.t 28) (.c (.sc (.int .i64 (1))))⟩⟩,
         ⟨false, [27, 29, 21], [], ⟨(some 30), (some (21, true)), .iaddrS 9 (.t 27) (.t 29)⟩⟩,
         ⟨false, [30, 21], [], ⟨(some 31), (some (21, true)), .load (some 9) (.t 30)⟩⟩]
         [⟨(some 32), (some (21, true)), .call (.t 22) [(.t 26), (.t 31)]⟩,
         ⟨(some 33), (some (21, true)), .bin .lss (.t 32) (.c (.sc (.int .i64 (0))))⟩,
         ⟨(some 34), none, .pick (.t 21) (.t 33) (.c (.sc (.bool false)))⟩])
       (.cond (.t 34)
        (.skip)
        (.exit 2)))
       (.seq (.block 3 (.draw [⟨false, [0], [], ⟨(some 37), none, .move (.t 0)⟩⟩,
          ⟨false, [9], [], ⟨(some 38), none, .move (.t 9)⟩⟩,
          ⟨false, [0], [], ⟨(some 39), none, .move (.t 0)⟩⟩,
          ⟨false, [9], [], ⟨(some 40), none, .move (.t 9)⟩⟩,
          ⟨false, [40], [], ⟨(some 41), none, .bin .sub (.t 40) (.c (.sc (.int .i64 (1))))⟩⟩,
          ⟨false, [0], [], ⟨(some 42), none, .move (.t 0)⟩⟩,
          ⟨false, [9], [], ⟨(some 43), none, .move (.t 9)⟩⟩,
          ⟨false, [43], [], ⟨(some 44), none, .bin .sub (.t 43) (.c (.sc (.int .i64 (1))))⟩⟩,
          ⟨false, [42, 44], [], ⟨(some 45), none, .iaddrS 9 (.t 42) (.t 44)⟩⟩,
          ⟨false, [45], [], ⟨(some 46), none, .load (some 9) (.t 45)⟩⟩,
          ⟨false, [0], [], ⟨(some 47), none, .move (.t 0)⟩⟩,
          ⟨false, [9], [], ⟨(some 48), none, .move (.t 9)⟩⟩,
          ⟨false, [47, 48], [], ⟨(some 49), none, .iaddrS 9 (.t 47) (.t 48)⟩⟩,
          ⟨false, [49], [], ⟨(some 50), none, .load (some 9) (.t 49)⟩⟩,
          ⟨true, [37, 38], [], ⟨(some 51), none, .iaddrS 9 (.t 37) (.t 38)⟩⟩,
          ⟨true, [51, 46], [], ⟨none, none, .store 9 (.t 51) (.t 46)⟩⟩]
          [⟨(some 52), none, .iaddrS 9 (.t 39) (.t 41)⟩,
          ⟨none, none, .store 9 (.t 52) (.t 50)⟩]))
       (.ops [⟨(some 35), none, .move (.t 9)⟩,
         ⟨(some 36), none, .bin .sub (.t 35) (.c (.sc (.int .i64 (1))))⟩,
         ⟨(some 9), none, .move (.t 36)⟩])))))))
    (.ops [⟨(some 15), none, .move (.t 8)⟩,
      ⟨(some 16), none, .bin .add (.t 15) (.c (.sc (.int .i64 (1))))⟩,
      ⟨(some 8), none, .move (.t 16)⟩]))))),
  []⟩
theorem ok294 : EntryOk Tryz.prog 294 af294 := ⟨Tryz.f294, _, Tryz.func294, by decide, rfl, by kernel_rfl, by kernel_rfl, rfl⟩
/-- (*hemiola/tempo.Map).last -/
noncomputable def af301 : AF := ⟨26, .seq (.ops [⟨(some 2), none, .alloc [(.sc (.int .i64 (0))), (.sc (.int .i64 (0))), (.sc (.int .i64 (0))), (.sc (.int .i64 (0))), (.sc (.int .i64 (0)))]⟩])
  (.seq (.seq (.ops [⟨(some 3), none, .move (.t 0)⟩,
    ⟨(some 4), none, .eqN .pt false (.t 3) (.c (.sc (.pointer none)))⟩,
    ⟨(some 5), none, .move (.t 4)⟩,
    ⟨(some 6), (some (5, false)), .move (.t 0)⟩,
    ⟨(some 7), (some (5, false)), .nilCheck (.t 6)⟩,
    ⟨(some 8), (some (5, false)), .faddr 0 (.t 7)⟩,
    ⟨(some 9), (some (5, false)), .load none (.t 8)⟩,
    ⟨(some 10), (some (5, false)), .len (.t 9)⟩,
    ⟨(some 11), (some (5, false)), .bin .eql (.t 10) (.c (.sc (.int .i64 (0))))⟩,
    ⟨(some 12), none, .pick (.t 5) (.c (.sc (.bool true))) (.t 11)⟩])
  (.cond (.t 12)
   (.seq (.ops [⟨(some 13), none, .build [(.sc (.int .i64 (0))), (.sc (.int .i64 (0))), (.sc (.int .i64 (0))), (.sc (.int .i64 (0))), (.sc (.int .i64 (0)))] []⟩,
     ⟨none, none, .store 5 (.t 2) (.t 13)⟩])
   (.ret))
   (.skip)))
  (.seq (.draw [⟨false, [0], [], ⟨(some 14), none, .move (.t 0)⟩⟩,
    ⟨false, [14], [], ⟨(some 15), none, .nilCheck (.t 14)⟩⟩,
    ⟨false, [15], [], ⟨(some 16), none, .faddr 0 (.t 15)⟩⟩,
    ⟨false, [16], [], ⟨(some 17), none, .load none (.t 16)⟩⟩,
    ⟨false, [0], [], ⟨(some 18), none, .move (.t 0)⟩⟩,
    ⟨false, [18], [], ⟨(some 19), none, .nilCheck (.t 18)⟩⟩,
    ⟨false, [19], [], ⟨(some 20), none, .faddr 0 (.t 19)⟩⟩,
    ⟨false, [20], [], ⟨(some 21), none, .load none (.t 20)⟩⟩,
    ⟨false, [21], [], ⟨(some 22), none, .len (.t 21)⟩⟩,
    ⟨false, [22], [], ⟨(some 23), none, .bin .sub (.t 22) (.c (.sc (.int .i64 (1))))⟩⟩]
    [⟨(some 24), none, .iaddrS 5 (.t 17) (.t 23)⟩,
    ⟨(some 25), none, .load (some 5) (.t 24)⟩,
    ⟨none, none, .store 5 (.t 2) (.t 25)⟩])
  (.ret))),
  [.c 2 (some 5)]⟩
theorem ok301 : EntryOk Tryz.prog 301 af301 := ⟨Tryz.f301, _, Tryz.func301, by decide, rfl, by kernel_rfl, by kernel_rfl, rfl⟩
/-- hemiola/tuplet.scale -/
noncomputable def af309 : AF := ⟨33, .seq (.ops [⟨(some 6), none, .move (.c (.sc (.int .i64 (0))))⟩,
    ⟨(some 7), none, .move (.c (.sc (.int .i64 (0))))⟩])
  (.seq (.seq (.ops [⟨(some 10), none, .move (.t 2)⟩,
    ⟨(some 11), none, .bin .lss (.t 10) (.c (.sc (.int .i64 (0))))⟩,
    ⟨(some 12), none, .move (.t 11)⟩,
    ⟨(some 13), (some (12, false)), .move (.t 2)⟩,
    ⟨(some 14), (some (12, false)), .bin .gtr (.t 13) (.c (.sc (.int .i64 (7741440))))⟩,
    ⟨(some 15), none, .pick (.t 12) (.c (.sc (.bool true))) (.t 14)⟩])
  (.cond (.t 15)
   (.seq (.ops [⟨(some 6), none, .move (.c (.sc (.int .i64 (0))))⟩,
     ⟨(some 7), none, .move (.c (.sc (.int .i64 (2))))⟩])
   (.ret))
   (.skip)))
  (.seq (.ops [⟨(some 17), none, .move (.t 0)⟩,
    ⟨(some 18), none, .move (.t 1)⟩,
    ⟨(some 19), none, .call (.c (.fn (.func 317) [] [])) [(.t 17), (.t 18)]⟩,
    ⟨(some 16), none, .move (.t 19)⟩,
    ⟨(some 20), none, .extract 0 (.t 16)⟩,
    ⟨(some 21), none, .extract 1 (.t 16)⟩,
    ⟨(some 8), none, .move (.t 20)⟩,
    ⟨(some 9), none, .move (.t 21)⟩])
  (.seq (.seq (.ops [⟨(some 22), none, .move (.t 2)⟩,
    ⟨(some 23), none, .move (.t 8)⟩,
    ⟨(some 24), none, .bin .mul (.t 22) (.t 23)⟩,
    ⟨(some 25), none, .move (.t 9)⟩,
    ⟨(some 26), none, .bin .rem (.t 24) (.t 25)⟩,
    ⟨(some 27), none, .bin .neq (.t 26) (.c (.sc (.int .i64 (0))))⟩])
  (.cond (.t 27)
   (.seq (.ops [⟨(some 6), none, .move (.c (.sc (.int .i64 (0))))⟩,
     ⟨(some 7), none, .move (.c (.sc (.int .i64 (16))))⟩])
   (.ret))
   (.skip)))
  (.seq (.ops [⟨(some 28), none, .move (.t 2)⟩,
    ⟨(some 29), none, .move (.t 8)⟩,
    ⟨(some 30), none, .bin .mul (.t 28) (.t 29)⟩,
    ⟨(some 31), none, .move (.t 9)⟩,
    ⟨(some 32), none, .bin .quo (.t 30) (.t 31)⟩,
    ⟨(some 6), none, .move (.t 32)⟩,
    ⟨(some 7), none, .move (.c (.sc (.int .i64 (0))))⟩])
  (.ret))))),
  [.t 6, .t 7]⟩
theorem ok309 : EntryOk Tryz.prog 309 af309 := ⟨Tryz.f309, _, Tryz.func309, by decide, rfl, by kernel_rfl, by kernel_rfl, rfl⟩
end Go.Proofs.YtmbchdfgckmpoaaGreat
