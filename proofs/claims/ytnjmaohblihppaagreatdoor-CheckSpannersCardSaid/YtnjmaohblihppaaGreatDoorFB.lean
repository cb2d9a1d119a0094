/- A part of the proof. -/
import Derived.Test.YtnjmaohblihppaaGreatDoorSY10
import Derived.Test.YtnjmaohblihppaaGreatDoorProg
set_option linter.all false
set_option maxRecDepth 100000
set_option maxHeartbeats 40000000
namespace Go.Proofs.YtnjmaohblihppaaGreatDoor
open Go.PE
noncomputable section
theorem mixed:Tryz.prog.follows .mixedOrders=true:=by kernel_rfl
def cd14:Code:=(Tryz.f14).body.getD .skip
def c14_9:AC:=.ops [ai 5 (.move 8)]
def c14_10:AC:=.block 1 (.draw [d0 [3] (ai 9 (.load none 3)),d0 [5] (ai 10 (.move 5)),d0 [10] (ai 11 (.nilCheck 10)),d0 [11] (ai 12 (.load (some 2) 11)),d0 [12] (ai 13 (.buildSl 2 [12]))] [ai 14 (.append 2 16 9 13),a0 (.store 1 3 14)])
def c14_8:AC:=.range 6 #[7,8] c14_9 c14_10 (Yy cd14 [1,1,0,1,0,0]) (Yy cd14 [1,1,0,1,0,1])
def c14_7:AC:=.block 0 c14_8
def c14_5:AC:=.seq (.ops [ai 6 (.call (.c (.fn (.func 33) [] [])) [1])]) c14_7
def c14_12:AC:=.seq (.ops [ai 15 (.load none 3),ai 2 (.move 15)]) .ret
def c14_4:AC:=.seq c14_5 c14_12
def c14_0:AC:=.seq (.ops [ai 1 (.box 0),ai 2 (.move (.c (.sl true .full 0 [])))]) (.seq (.ops [ai 3 (.alloc [.sl true .full 0 []])]) c14_4)
def af14:AF:=⟨16,c14_0,[.t 2]⟩
abbrev Xs (le:List (Nat×PV)) (st:LoopState) (pd:Option Code):Blk:=.loop (mk af14.ntmps le) #[7,8] c14_9 c14_10 (Yy cd14 [1,1,0,1,0,0]) (Yy cd14 [1,1,0,1,0,1]) st pd
theorem ok14:EntryOk Tryz.prog 14 af14:=eok Tryz.func14
def c33_4:AC:=.ret
def c33_2:AC:=.seq (.ops [ai 3 (.mkFn (.func 78) [] [1]),ai 2 (.move 3)]) c33_4
def c33_0:AC:=.seq (.ops [ai 1 (.box 0),ai 2 (.move (.c (.sc .nilFunc)))]) c33_2
def af33:AF:=⟨4,c33_0,[.t 2]⟩
theorem ok33:EntryOk Tryz.prog 33 af33:=eok Tryz.func33
def cd15:Code:=(Tryz.f15).body.getD .skip
def c15_15:AC:=.seq (.ops [ai 6 (.alloc [iP 0,iP 0,iP 0,iP 0,iP 0,iP 0,iP 0]),a0 (.store 7 6 13)]) (.ops [ai 7 (.move 14)])
def c15_18:AC:=.block 1 (.seq (.draw [d0 [7] (ai 15 (.move 7)),d0 [15] (ai 16 (.nilCheck 15)),d0 [16] (ai 17 (.load (some 2) 16)),d0 [3] (ai 18 (.load (some 2) 3))] [ai 19 (.eqC [.i,.i] false 17 18)]) (.cond 19 (.seq (.ops [ai 20 (.load (some 7) 6),a0 (.store 7 4 20),a0 (.store 1 5 (.c (bP true)))]) .ret) .skip))
def c15_14:AC:=.range 12 #[13,14] c15_15 c15_18 (Yy cd15 [1,1,0,1,0,0]) (Yy cd15 [1,1,0,1,0,1])
def c15_13:AC:=.block 0 c15_14
def c15_11:AC:=.seq (.ops [ai 12 (.call (.c (.fn (.func 33) [] [])) [2])]) c15_13
def c15_26:AC:=.seq (.ops [ai 21 (.build [iP 0,iP 0,iP 0,iP 0,iP 0,iP 0,iP 0] []),a0 (.store 7 4 21),a0 (.store 1 5 (.c (bP false)))]) .ret
def c15_10:AC:=.seq c15_11 c15_26
def c15_0:AC:=.seq (.ops [ai 2 (.box 0),ai 3 (.box 1),ai 4 (.alloc [iP 0,iP 0,iP 0,iP 0,iP 0,iP 0,iP 0]),ai 5 (.alloc [bP false])]) (.seq (.seq (.ops [ai 8 (.load (some 2) 3),ai 9 (.build [iP 0,iP 0] []),ai 10 (.eqC [.i,.i] false 8 9)]) (.cond 10 (.seq (.ops [ai 11 (.build [iP 0,iP 0,iP 0,iP 0,iP 0,iP 0,iP 0] []),a0 (.store 7 4 11),a0 (.store 1 5 (.c (bP false)))]) .ret) .skip)) c15_10)
def af15:AF:=⟨22,c15_0,[.c 4 (some 7),.c 5 none]⟩
abbrev Xn (le:List (Nat×PV)) (st:LoopState) (pd:Option Code):Blk:=.loop (mk af15.ntmps le) #[13,14] c15_15 c15_18 (Yy cd15 [1,1,0,1,0,0]) (Yy cd15 [1,1,0,1,0,1]) st pd
theorem ok15:EntryOk Tryz.prog 15 af15:=eok Tryz.func15
abbrev A0 (f:FuncId) (a:List PV) (r:PV):Prop:=ACall Tryz.prog f a [] (λq h=>q=r/\h=[])
abbrev bqF {P:Program}:BN P:=bq (t:=false) (b:=false) rfl
abbrev fz (n:Nat):PV:=.fn (.func 78) [] [.bp n 0]
abbrev fk (n:Nat):PV:=.fn (.func n) [] []
abbrev zz:List (Nat×PV):=[(3,.bp 1 0),(4,.bp 2 0),(5,.bp 3 0),(12,fz 4)]
abbrev zy:List (Nat×PV):=[(3,.bp 1 0),(6,fz 3)]
end
end Go.Proofs.YtnjmaohblihppaaGreatDoor
