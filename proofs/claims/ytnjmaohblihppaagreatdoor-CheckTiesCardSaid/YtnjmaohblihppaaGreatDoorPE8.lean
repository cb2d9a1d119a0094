/- A part of the proof. -/
import Derived.Test.YtnjmaohblihppaaGreatDoorPE7
set_option linter.all false
namespace Go.PE
open Go.RowKit
def compOps (xs:List Operand):Option (List Opd):=xs.mapM compOpd
def compOpt:Option Operand→Option (Option Opd)
 |none=>some none
 |some x=>(compOpd x).map some
def sizeP (P:Program) (t:TypeId):Option Nat:=(P.info? t).map (·.size)
def zeroP (P:Program) (t:TypeId):Option (List PV):=((P.info? t).bind (·.zero)).bind fun z=>z.cells.toList.mapM ofCell
def zeroV (P:Program) (t:TypeId):Option PV:=((P.info? t).bind (·.zero)).bind ofV
def mutT (P:Program) (e:TypeId):Bool:=match P.info? e with
 |some { desc:=.named n _,.. }=>n== "hemiola/api.Staff"&&P.funcs.any fun f=>f.name== "hemiola/hemiolalaw16.example"
 |_=>false
def mutA (P:Program) (e:TypeId):Bool:=match P.info? e with
 |some { desc:=.named n _,.. }=>n== "hemiola/api.Note"||n== "hemiola/tempo.Stretch"
 |_=>false
def compCall (P:Program) (c:Call):Option AOp:=
 match c.callee with
 |.value f=>do pure (.call (←compOpd f) (←compOps c.args.toList))
 |.builtin .len=>match c.args.toList,c.argTypes.toList with
  |[x],[t]=>match P.underlying t with
   |some .string=>(compOpd x).map .lenStr
   |some (.slice _)=>(compOpd x).map .len
   |_=>none
  |_,_=>none
 |.builtin .append=>match c.args.toList,c.argTypes.toList with
  |[s,x],[t,tx]=>match P.underlying t,P.underlying tx with
   |some (.slice e),some (.slice _)=>match mutA P e with
    |true=>do
     let i ←P.info? e
     let z ←i.zero
     if z.cells.size=i.size then pure (.appendM i.size i.bytes (←compOpd s) (←compOpd x))else none
    |false=>do
     let i ←P.info? e
     let z ←i.zero
     if z.cells.size=i.size then pure (.append i.size i.bytes (←compOpd s) (←compOpd x))else none
   |_,_=>none
  |_,_=>none
 |.builtin .min=>(compOps c.args.toList).map (.mm false)
 |.builtin .max=>(compOps c.args.toList).map (.mm true)
 |_=>none
def compOp (P:Program):Op→Option AOp
 |.move x|.assign x=>(compOpd x).map .move
 |.pick c a b=>do pure (.pick (←compOpd c) (←compOpd a) (←compOpd b))
 |.alloc t=>(zeroP P t).map .alloc
 |.box _ x=>(compOpd x).map .box
 |.build t parts=>do
  let z ←zeroP P t
  let ps ←parts.toList.mapM fun x=>(compOpd x.2).map fun y=>(x.1,y)
  match P.underlying t with
  |some (.struct fs)=>do
   let pl ←placesOf P fs.toList
   (ps.mapM fun x:Nat×Opd=>(pl[x.1]?).map fun y=>(y,x.2)).map (.build z)
  |some (.array _ e)=>do
   let s ←sizeP P e
   pure (.build z (ps.map fun x:Nat×Opd=>((x.1*s,s),x.2)))
  |_=>none
 |.buildSlice t len parts=>match P.underlying t with
  |some (.slice e)=>do
   let s ←sizeP P e
   let _ ←zeroP P e
   if len*s≤16777216∧len≤16777216∧parts.toList.map (·.1)=List.range len then
    (compOps (parts.toList.map (·.2))).map (fun l=>if mutT P e then .buildM s l else .buildSl s l)else none
  |_=>none
 |.load t a=>do pure (.load (←agOf P t) (←compOpd a))
 |.store t a v=>do pure (.store (←sizeP P t) (←compOpd a) (←compOpd v))
 |.fieldAddr t x f=>match P.underlying t with
  |some (.struct fs)=>do
   let fd ←fs[f]?
   let s ←sizeP P fd.type
   if s=0 then none else (compOpd x).map (.faddr fd.offset)
  |_=>none
 |.field t x f=>match P.underlying t with
  |some (.struct fs)=>do
   let fd ←fs[f]?
   pure (.field fd.offset (←agOf P fd.type) (←compOpd x))
  |_=>none
 |.indexAddr t x i=>match P.underlying t with
  |some (.slice e)=>do pure (.iaddrS (←sizeP P e) (←compOpd x) (←compOpd i))
  |some (.array n e)=>do pure (.iaddrA (←sizeP P e) n (←compOpd x) (←compOpd i))
  |_=>none
 |.index t x i=>match P.underlying t with
  |some (.array n e)=>do pure (.idxA (←sizeP P e) n (←agOf P e) (←compOpd x) (←compOpd i))
  |some .string=>do pure (.idxStr (←compOpd x) (←compOpd i))
  |_=>none
 |.slice t x lo hi mx=>match P.underlying t with
  |some .string=>match mx with
   |none=>do pure (.slStr (←compOpd x) (←compOpt lo) (←compOpt hi))
   |some _=>none
  |some (.slice e)=>do pure (.slSl (←sizeP P e) (←compOpd x) (←compOpt lo) (←compOpt hi) (←compOpt mx))
  |_=>none
 |.binOp op t x y _=>do
  let x ←compOpd x
  let y ←compOpd y
  if op=.eql∨op=.neq then
   match P.underlying t with
   |some (.int _)|some .string=>pure (.bin op x y)
   |some .bool=>pure (.eqB (op==.neq) x y)
   |some (.struct _)=>if P.eqGuardType P.depth t then none else do pure (.eqC (←plainEq P 20 t) (op==.neq) x y)
   |some (.array n e)=>if P.eqGuardType P.depth t then none else match P.underlying e,P.info? e with
    |some (.int _),some i=>if i.size=1 then pure (.eqC (List.replicate n .i) (op==.neq) x y)else none
    |_,_=>none
   |some (.slice _)=>pure (.eqN .sl (op==.neq) x y)
   |some (.pointer _)=>pure (.eqN .pt (op==.neq) x y)
   |some (.func _ _ _)=>pure (.eqN .fn (op==.neq) x y)
   |some (.map _ _)=>pure (.eqN .mp (op==.neq) x y)
   |_=>none
  else pure (.bin op x y)
 |.unOp op _ x=>(compOpd x).map (.un op)
 |.convert s t x=>match P.underlying s,P.underlying t with
  |some (.int _),some (.int k)=>(compOpd x).map (.convI k)
  |some .string,some .string=>(compOpd x).map .convS
  |some .string,some (.slice e)=>match P.underlying e with
   |some (.int .u8)=>(compOpd x).map .strBytes
   |_=>none
  |some (.slice e),some .string=>match P.underlying e with
   |some (.int .u8)=>(compOpd x).map .bytesStr
   |_=>none
  |_,_=>none
 |.makeSlice t l c=>match P.underlying t with
  |some (.slice e)=>do
   let i ←P.info? e
   let zv ←i.zero
   let z ←zv.cells.toList.mapM ofCell
   if zv.cells.size=i.size then pure (.mkSl i.size i.bytes z (←compOpd l) (←compOpd c))else none
  |_=>none
 |.extract x i=>(compOpd x).map (.extract i)
 |.makeFunc f first cap=>do pure (.mkFn f (←compOps first.toList) (←compOps cap.toList))
 |.nilCheck x=>(compOpd x).map .nilCheck
 |.makeMap _ none=>some .mkMap
 |.range t x=>match P.underlying t with
  |some (.map _ _)=>(compOpd x).map .rangeM
  |_=>none
 |.next x false=>(compOpd x).map .nextM
 |.entry x=>(compOpd x).map .entryM
 |.lookup t m k ok=>match P.underlying t with
  |some (.map kt e)=>do
   let ks ←plainEq P 20 kt
   let zero ←zeroV P e
   let kg ←agOf P kt
   pure (.lookup ks kg.isSome zero (←compOpd m) (←compOpd k) ok)
  |_=>none
 |.mapUpdate t m k v=>match P.underlying t with
  |some (.map kt _)=>do
   let ks ←plainEq P 20 kt
   let kg ←agOf P kt
   pure (.mapUp ks kg.isSome (←compOpd m) (←compOpd k) (←compOpd v))
  |_=>none
 |.call c=>compCall P c
 |_=>none
def compI (P:Program) (ops:Array Oper) (o:Oper):Option AI:=do
 let a:=(compOp P o.op).getD .bad
 match o.guard with
 |none=>pure ⟨o.dst,none,a⟩
 |some (j,b)=>do
  let d ←(ops[j]?).bind (·.dst)
  pure ⟨o.dst,some (d,b),a⟩
def ancB (ops:Array Oper) (m:Array Nat) (i j:Nat):Bool:=decide (i<ops.size)&&decide (j<ops.size)&&(m.getD i 0).testBit j
def looksOf (ops:Array Oper) (o:Oper):List Nat:=
 (o.op.operands.toList.filterMap fun|.tmp t=>some t|_=>none)++(match o.guard with|some (j,_)=>((ops[j]?).bind (·.dst)).toList|none=>[])
def orderOk (ops:Array Oper) (m:Array Nat) (l:List DI):Bool:=
 decide (l.length≤ops.size)&&
 ((List.range ops.size).all fun i=>(List.range ops.size).all fun j=>!ancB ops m i j||(decide (j<i)&&((ops[i]?).any fun o=>o.after.any fun e=>Region.binds .any e&&(e.on==j||(decide (e.on<i)&&ancB ops m e.on j)))))&&
 ((List.range l.length).all fun i=>(List.range l.length).all fun j=>i==j||(match l[i]?,l[j]? with
  |some x,some y=>(x.looks.all fun t=>y.ai.dst !=some t||ancB ops m i j||ancB ops m j i)&&(x.ai.dst.isNone||x.ai.dst !=y.ai.dst)&&(!x.ord||isPure y.ai.op||ancB ops m i j||ancB ops m j i||(isRd y.ai.op&&y.free.contains i))
  |_,_=>true))&&
 ((List.range ops.size).all fun t=>decide (t<l.length)||(List.range t).all fun j=>ancB ops m t j)&&
 ((List.range ops.size).all fun i=>(ops[i]?).all fun o=>o.after.all fun e=>!Region.binds .any e||decide (e.on<i))
def rowFrom (ops:Array Oper) (m:Array Nat):Nat:=
 ((List.range ops.size).find? fun n=>(List.range ops.size).all fun i=>decide (i<n)||(List.range i).all fun j=>ancB ops m i j).getD ops.size
def compDraw (P:Program) (ops:Array Oper):Option AC:=do
 let m:=Region.before ops
 let n:=rowFrom ops m
 let pre ←(ops.toList.take n).mapM fun o=>compI P ops o
 let ordB (i:Nat) (op:AOp):Bool:=pre.zipIdx.all fun x=>x.2==i||isPure x.1.op||ancB ops m i x.2||ancB ops m x.2 i||(isRd x.1.op&&!isRd op&&!isPure op)
 let freeOf (i:Nat) (op:AOp):List Nat:=if isRd op then pre.zipIdx.filterMap fun x=>if x.2==i||isPure x.1.op||ancB ops m i x.2||ancB ops m x.2 i||isRd x.1.op then none else some x.2 else []
 let head ←(ops.toList.take n).zipIdx.mapM fun x=>(compI P ops x.1).map fun ai=>(⟨ordB x.2 ai.op,looksOf ops x.1,freeOf x.2 ai.op,ai⟩:DI)
 let tail ←(ops.toList.drop head.length).mapM (compI P ops)
 if orderOk ops m head then pure (.draw head tail)else none
def comp (P:Program):Code→Option AC
 |.skip=>some .skip
 |.region _ ops draw=>if draw then compDraw P ops else (ops.toList.mapM (compI P ops)).map .ops
 |.seq a b=>do pure (.seq (←comp P a) (←comp P b))
 |.cond c a b=>do pure (.cond (←compOpd c) (←comp P a) (←comp P b))
 |.block id c=>(comp P c).map (.block id)
 |.loop c=>(comp P c).map .loop
 |.rangeFunc f ps a b=>do pure (.range (←compOpd f) ps (←comp P a) (←comp P b) a b)
 |.exit id=>some (.exit id)
 |.scope c=>comp P c
 |.label _=>some .skip
 |.ret=>some .ret
 |_=>some .bad
end Go.PE
