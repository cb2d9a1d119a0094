/- A part of the proof. -/
import Derived.Test.YtibndgdocbbbeaaGreatSY10
import Derived.Test.YtibndgdocbbbeaaGreatProg
set_option linter.all false
set_option maxRecDepth 100000
set_option maxHeartbeats 40000000
set_option synthInstance.maxSize 100000
namespace Go.Proofs.YtibndgdocbbbeaaGreat
open Go.PE
noncomputable section
theorem mixed:Tryz.prog.follows .mixedOrders=true:=by kernel_rfl
def cd127:Code:=(Tryz.f127).body.getD .skip
def c127_9:AC:=.ops [ai 5 (.move 8)]
def c127_10:AC:=.block 1 (.draw [d0 [3] (ai 9 (.load none 3)),d0 [5] (ai 10 (.move 5)),d0 [10] (ai 11 (.nilCheck 10)),d0 [11] (ai 12 (.load (some 2) 11)),d0 [12] (ai 13 (.buildSl 2 [12]))] [ai 14 (.append 2 16 9 13),a0 (.store 1 3 14)])
def c127_8:AC:=.range 6 #[7,8] c127_9 c127_10 (Zn cd127 [1,1,0,1,0,0]) (Zn cd127 [1,1,0,1,0,1])
def c127_7:AC:=.block 0 c127_8
def c127_5:AC:=.seq (.ops [ai 6 (.call (.c (.fn (.func 204) [] [])) [1])]) c127_7
def c127_12:AC:=.seq (.ops [ai 15 (.load none 3),ai 2 (.move 15)]) .ret
def c127_4:AC:=.seq c127_5 c127_12
def c127_0:AC:=.seq (.ops [ai 1 (.box 0),ai 2 (.move (.c (.sl true .full 0 [])))]) (.seq (.ops [ai 3 (.alloc [.sl true .full 0 []])]) c127_4)
def af127:AF:=⟨16,c127_0,[.t 2]⟩
abbrev Xv (le:List (Nat×PV)) (st:LoopState) (pd:Option Code):Blk:=.loop (mk af127.ntmps le) #[7,8] c127_9 c127_10 (Zn cd127 [1,1,0,1,0,0]) (Zn cd127 [1,1,0,1,0,1]) st pd
theorem ok127:EntryOk Tryz.prog 127 af127:=eok Tryz.func127
def c204_4:AC:=.ret
def c204_2:AC:=.seq (.ops [ai 3 (.mkFn (.func 276) [] [1]),ai 2 (.move 3)]) c204_4
def c204_0:AC:=.seq (.ops [ai 1 (.box 0),ai 2 (.move (.c (.sc .nilFunc)))]) c204_2
def af204:AF:=⟨4,c204_0,[.t 2]⟩
theorem ok204:EntryOk Tryz.prog 204 af204:=eok Tryz.func204
def cd291:Code:=(Tryz.f291).body.getD .skip
def c291_15:AC:=.seq (.ops [ai 6 (.alloc [iP 0,iP 0,iP 0,iP 0,iP 0,iP 0,iP 0]),a0 (.store 7 6 13)]) (.ops [ai 7 (.move 14)])
def c291_18:AC:=.block 1 (.seq (.draw [d0 [7] (ai 15 (.move 7)),d0 [15] (ai 16 (.nilCheck 15)),d0 [16] (ai 17 (.load (some 2) 16)),d0 [3] (ai 18 (.load (some 2) 3))] [ai 19 (.eqC [.i,.i] false 17 18)]) (.cond 19 (.seq (.ops [ai 20 (.load (some 7) 6),a0 (.store 7 4 20),a0 (.store 1 5 (.c (bP true)))]) .ret) .skip))
def c291_14:AC:=.range 12 #[13,14] c291_15 c291_18 (Zn cd291 [1,1,0,1,0,0]) (Zn cd291 [1,1,0,1,0,1])
def c291_13:AC:=.block 0 c291_14
def c291_11:AC:=.seq (.ops [ai 12 (.call (.c (.fn (.func 204) [] [])) [2])]) c291_13
def c291_26:AC:=.seq (.ops [ai 21 (.build [iP 0,iP 0,iP 0,iP 0,iP 0,iP 0,iP 0] []),a0 (.store 7 4 21),a0 (.store 1 5 (.c (bP false)))]) .ret
def c291_10:AC:=.seq c291_11 c291_26
def c291_0:AC:=.seq (.ops [ai 2 (.box 0),ai 3 (.box 1),ai 4 (.alloc [iP 0,iP 0,iP 0,iP 0,iP 0,iP 0,iP 0]),ai 5 (.alloc [bP false])]) (.seq (.seq (.ops [ai 8 (.load (some 2) 3),ai 9 (.build [iP 0,iP 0] []),ai 10 (.eqC [.i,.i] false 8 9)]) (.cond 10 (.seq (.ops [ai 11 (.build [iP 0,iP 0,iP 0,iP 0,iP 0,iP 0,iP 0] []),a0 (.store 7 4 11),a0 (.store 1 5 (.c (bP false)))]) .ret) .skip)) c291_10)
def af291:AF:=⟨22,c291_0,[.c 4 (some 7),.c 5 none]⟩
abbrev Xn (le:List (Nat×PV)) (st:LoopState) (pd:Option Code):Blk:=.loop (mk af291.ntmps le) #[13,14] c291_15 c291_18 (Zn cd291 [1,1,0,1,0,0]) (Zn cd291 [1,1,0,1,0,1]) st pd
theorem ok291:EntryOk Tryz.prog 291 af291:=eok Tryz.func291
abbrev A0 (f:FuncId) (a:List PV) (r:PV):Prop:=ACall Tryz.prog f a [] (λq h=>q=r/\h=[])
abbrev bqF {P:Program}:BN P:=bq (t:=false) (b:=false) rfl
abbrev fz (n:Nat):PV:=.fn (.func 276) [] [.bp n 0]
abbrev fk (n:Nat):PV:=.fn (.func n) [] []
abbrev zz:List (Nat×PV):=[(3,.bp 1 0),(4,.bp 2 0),(5,.bp 3 0),(12,fz 4)]
abbrev zy:List (Nat×PV):=[(3,.bp 1 0),(6,fz 3)]
end
end Go.Proofs.YtibndgdocbbbeaaGreat
