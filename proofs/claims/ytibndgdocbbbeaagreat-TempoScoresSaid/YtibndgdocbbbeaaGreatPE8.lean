/- A part of the proof. -/
import Derived.Test.YtibndgdocbbbeaaGreatPE7
set_option linter.all false
namespace Go.PE
open Go.RowKit
def Vp (xs:List Operand):Option (List Opd):=xs.mapM Xk
def Vo:Option Operand->Option (Option Opd)
 |none=>some none
 |some x=>(Xk x).map some
def Zh (P:Program) (t:TypeId):Option Nat:=(P.info? t).map (·.size)
def zeroP (P:Program) (t:TypeId):Option (List PV):=((P.info? t).bind (·.zero)).bind λz=>z.cells.toList.mapM ofCell
def zeroV (P:Program) (t:TypeId):Option PV:=((P.info? t).bind (·.zero)).bind ofV
def mutT (P:Program) (e:TypeId):Bool:=match P.info? e with
 |some { desc:=.named n _,.. }=>n== "hemiola/api.Staff"&&P.funcs.any λf=>f.name== "hemiola/hemiolalaw16.example"
 |_=>false
def mutA (P:Program) (e:TypeId):Bool:=match P.info? e with
 |some { desc:=.named n _,.. }=>n== "hemiola/api.Note"||n== "hemiola/tempo.Stretch"
 |_=>false
def compCall (P:Program) (c:Call):Option AOp:=
 match c.callee with
 |.value f=>do pure (.call (<-Xk f) (<-Vp c.args.toList))
 |.builtin .len=>match c.args.toList,c.argTypes.toList with
  |[x],[t]=>match P.underlying t with
   |some .string=>(Xk x).map .lenStr
   |some (.slice _)=>(Xk x).map .len
   |_=>none
  |_,_=>none
 |.builtin .append=>match c.args.toList,c.argTypes.toList with
  |[s,x],[t,tx]=>match P.underlying t,P.underlying tx with
   |some (.slice e),some (.slice _)=>match mutA P e with
    |true=>do
     let i <-P.info? e
     let z <-i.zero
     if z.cells.size=i.size then pure (.appendM i.size i.bytes (<-Xk s) (<-Xk x))else none
    |false=>do
     let i <-P.info? e
     let z <-i.zero
     if z.cells.size=i.size then pure (.append i.size i.bytes (<-Xk s) (<-Xk x))else none
   |_,_=>none
  |_,_=>none
 |.builtin .min=>(Vp c.args.toList).map (.mm false)
 |.builtin .max=>(Vp c.args.toList).map (.mm true)
 |_=>none
def Xo (P:Program):Op->Option AOp
 |.move x|.assign x=>(Xk x).map .move
 |.pick c a b=>do pure (.pick (<-Xk c) (<-Xk a) (<-Xk b))
 |.alloc t=>(zeroP P t).map .alloc
 |.box _ x=>(Xk x).map .box
 |.build t parts=>do
  let z <-zeroP P t
  let ps <-parts.toList.mapM λx=>(Xk x.2).map λy=>(x.1,y)
  match P.underlying t with
  |some (.struct fs)=>do
   let pl <-placesOf P fs.toList
   (ps.mapM λx:Nat×Opd=>(pl[x.1]?).map λy=>(y,x.2)).map (.build z)
  |some (.array _ e)=>do
   let s <-Zh P e
   pure (.build z (ps.map λx:Nat×Opd=>((x.1*s,s),x.2)))
  |_=>none
 |.buildSlice t len parts=>match P.underlying t with
  |some (.slice e)=>do
   let s <-Zh P e
   let _ <-zeroP P e
   if len*s<=16777216/\len<=16777216/\parts.toList.map (·.1)=List.range len then
    (Vp (parts.toList.map (·.2))).map (λl=>if mutT P e then .buildM s l else .buildSl s l)else none
  |_=>none
 |.load t a=>do pure (.load (<-agOf P t) (<-Xk a))
 |.store t a v=>do pure (.store (<-Zh P t) (<-Xk a) (<-Xk v))
 |.fieldAddr t x f=>match P.underlying t with
  |some (.struct fs)=>do
   let fd <-fs[f]?
   let s <-Zh P fd.type
   if s=0 then none else (Xk x).map (.faddr fd.offset)
  |_=>none
 |.field t x f=>match P.underlying t with
  |some (.struct fs)=>do
   let fd <-fs[f]?
   pure (.field fd.offset (<-agOf P fd.type) (<-Xk x))
  |_=>none
 |.indexAddr t x i=>match P.underlying t with
  |some (.slice e)=>do pure (.iaddrS (<-Zh P e) (<-Xk x) (<-Xk i))
  |some (.array n e)=>do pure (.iaddrA (<-Zh P e) n (<-Xk x) (<-Xk i))
  |_=>none
 |.index t x i=>match P.underlying t with
  |some (.array n e)=>do pure (.idxA (<-Zh P e) n (<-agOf P e) (<-Xk x) (<-Xk i))
  |some .string=>do pure (.idxStr (<-Xk x) (<-Xk i))
  |_=>none
 |.slice t x lo hi mx=>match P.underlying t with
  |some .string=>match mx with
   |none=>do pure (.slStr (<-Xk x) (<-Vo lo) (<-Vo hi))
   |some _=>none
  |some (.slice e)=>do pure (.slSl (<-Zh P e) (<-Xk x) (<-Vo lo) (<-Vo hi) (<-Vo mx))
  |_=>none
 |.binOp op t x y _=>do
  let x <-Xk x
  let y <-Xk y
  if op=.eql\/op=.neq then
   match P.underlying t with
   |some (.int _)|some .string=>pure (.bin op x y)
   |some .bool=>pure (.eqB (op==.neq) x y)
   |some (.struct _)=>if P.eqGuardType P.depth t then none else do pure (.eqC (<-Yc P 20 t) (op==.neq) x y)
   |some (.array n e)=>if P.eqGuardType P.depth t then none else match P.underlying e,P.info? e with
    |some (.int _),some i=>if i.size=1 then pure (.eqC (List.replicate n .i) (op==.neq) x y)else none
    |_,_=>none
   |some (.slice _)=>pure (.eqN .sl (op==.neq) x y)
   |some (.pointer _)=>pure (.eqN .pt (op==.neq) x y)
   |some (.func _ _ _)=>pure (.eqN .fn (op==.neq) x y)
   |some (.map _ _)=>pure (.eqN .mp (op==.neq) x y)
   |_=>none
  else pure (.bin op x y)
 |.unOp op _ x=>(Xk x).map (.un op)
 |.convert s t x=>match P.underlying s,P.underlying t with
  |some (.int _),some (.int k)=>(Xk x).map (.convI k)
  |some .string,some .string=>(Xk x).map .convS
  |some .string,some (.slice e)=>match P.underlying e with
   |some (.int .u8)=>(Xk x).map .strBytes
   |_=>none
  |some (.slice e),some .string=>match P.underlying e with
   |some (.int .u8)=>(Xk x).map .bytesStr
   |_=>none
  |_,_=>none
 |.makeSlice t l c=>match P.underlying t with
  |some (.slice e)=>do
   let i <-P.info? e
   let zv <-i.zero
   let z <-zv.cells.toList.mapM ofCell
   if zv.cells.size=i.size then pure (.mkSl i.size i.bytes z (<-Xk l) (<-Xk c))else none
  |_=>none
 |.extract x i=>(Xk x).map (.extract i)
 |.makeFunc f first cap=>do pure (.mkFn f (<-Vp first.toList) (<-Vp cap.toList))
 |.nilCheck x=>(Xk x).map .nilCheck
 |.makeMap _ none=>some .mkMap
 |.range t x=>match P.underlying t with
  |some (.map _ _)=>(Xk x).map .rangeM
  |_=>none
 |.next x false=>(Xk x).map .nextM
 |.entry x=>(Xk x).map .entryM
 |.lookup t m k ok=>match P.underlying t with
  |some (.map kt e)=>do
   let ks <-Yc P 20 kt
   let zero <-zeroV P e
   let kg <-agOf P kt
   pure (.lookup ks kg.isSome zero (<-Xk m) (<-Xk k) ok)
  |_=>none
 |.mapUpdate t m k v=>match P.underlying t with
  |some (.map kt _)=>do
   let ks <-Yc P 20 kt
   let kg <-agOf P kt
   pure (.mapUp ks kg.isSome (<-Xk m) (<-Xk k) (<-Xk v))
  |_=>none
 |.call c=>compCall P c
 |_=>none
def compI (P:Program) (ops:Array Oper) (o:Oper):Option AI:=do
 let a:=(Xo P o.op).getD .bad
 match o.guard with
 |none=>pure ⟨o.dst,none,a⟩
 |some (j,b)=>do
  let d <-(ops[j]?).bind (·.dst)
  pure ⟨o.dst,some (d,b),a⟩
def ancB (ops:Array Oper) (m:Array Nat) (i j:Nat):Bool:=decide (i<ops.size)&&decide (j<ops.size)&&(m.getD i 0).testBit j
def looksOf (ops:Array Oper) (o:Oper):List Nat:=
 (o.op.operands.toList.filterMap fun|.tmp t=>some t|_=>none)++(match o.guard with|some (j,_)=>((ops[j]?).bind (·.dst)).toList|none=>[])
def orderOk (ops:Array Oper) (m:Array Nat) (l:List DI):Bool:=
 decide (l.length<=ops.size)&&
 ((List.range ops.size).all λi=>(List.range ops.size).all λj=>!ancB ops m i j||(decide (j<i)&&((ops[i]?).any λo=>o.after.any λe=>Region.binds .any e&&(e.on==j||(decide (e.on<i)&&ancB ops m e.on j)))))&&
 ((List.range l.length).all λi=>(List.range l.length).all λj=>i==j||(match l[i]?,l[j]? with
  |some x,some y=>(x.looks.all λt=>y.ai.dst !=some t||ancB ops m i j||ancB ops m j i)&&(x.ai.dst.isNone||x.ai.dst !=y.ai.dst)&&(!x.ord||Yx y.ai.op||ancB ops m i j||ancB ops m j i||(isRd y.ai.op&&y.free.contains i))
  |_,_=>true))&&
 ((List.range ops.size).all λt=>decide (t<l.length)||(List.range t).all λj=>ancB ops m t j)&&
 ((List.range ops.size).all λi=>(ops[i]?).all λo=>o.after.all λe=>!Region.binds .any e||decide (e.on<i))
def rowFrom (ops:Array Oper) (m:Array Nat):Nat:=
 ((List.range ops.size).find? λn=>(List.range ops.size).all λi=>decide (i<n)||(List.range i).all λj=>ancB ops m i j).getD ops.size
def compDraw (P:Program) (ops:Array Oper):Option AC:=do
 let m:=Region.before ops
 let n:=rowFrom ops m
 let pre <-(ops.toList.take n).mapM λo=>compI P ops o
 let ordB (i:Nat) (op:AOp):Bool:=pre.zipIdx.all λx=>x.2==i||Yx x.1.op||ancB ops m i x.2||ancB ops m x.2 i||(isRd x.1.op&&!isRd op&&!Yx op)
 let freeOf (i:Nat) (op:AOp):List Nat:=if isRd op then pre.zipIdx.filterMap λx=>if x.2==i||Yx x.1.op||ancB ops m i x.2||ancB ops m x.2 i||isRd x.1.op then none else some x.2 else []
 let head <-(ops.toList.take n).zipIdx.mapM λx=>(compI P ops x.1).map λai=>(⟨ordB x.2 ai.op,looksOf ops x.1,freeOf x.2 ai.op,ai⟩:DI)
 let tail <-(ops.toList.drop head.length).mapM (compI P ops)
 if orderOk ops m head then pure (.draw head tail)else none
def comp (P:Program):Code->Option AC
 |.skip=>some .skip
 |.region _ ops draw=>if draw then compDraw P ops else (ops.toList.mapM (compI P ops)).map .ops
 |.seq a b=>do pure (.seq (<-comp P a) (<-comp P b))
 |.cond c a b=>do pure (.cond (<-Xk c) (<-comp P a) (<-comp P b))
 |.block id c=>(comp P c).map (.block id)
 |.loop c=>(comp P c).map .loop
 |.rangeFunc f ps a b=>do pure (.range (<-Xk f) ps (<-comp P a) (<-comp P b) a b)
 |.exit id=>some (.exit id)
 |.scope c=>comp P c
 |.label _=>some .skip
 |.ret=>some .ret
 |_=>some .bad
end Go.PE
