/- A part of the proof. -/
import Derived.Test.YtibndgdocbbbeaaGreatPE1
set_option linter.all false
namespace Go.PE
open Go.RowKit
def Yx:AOp->Bool
 |.move _|.pick ..|.build ..|.buildSl ..|.faddr ..|.field ..|.iaddrS ..|.iaddrA ..|.idxA ..|.idxStr ..|.slStr ..|.slSl ..|.bin ..|.eqB ..|.eqC ..|.eqN ..|.un ..|.convI ..|.convS _
 |.extract ..|.mkFn ..|.nilCheck _|.len _|.lenStr _|.mm ..=>true
 |_=>false
def isRd:AOp->Bool
 |.load ..|.alloc _|.mkMap=>true
 |_=>false
def Opd.ev (env:List PV):Opd->PV
 |.t n=>(env[n]?).getD .any
 |.c p=>p
def PV.cellP:PV->Bool
 |.any|.agg _|.tup _=>false
 |_=>true
def PV.known:PV->Bool
 |.any=>false
 |_=>true
def PV.cells:PV->List PV
 |.agg cs=>cs
 |p=>[p]
def Yy (ag:Option Nat) (cs:List PV):Option PV:=
 match ag with
 |some n=>if n<=cs.length then some (.agg (cs.take n))else none
 |none=>cs.head?
def eqK:Knd->Value->Value->Option Bool
 |.i,.int k a,.int k' b=>if k=k' then some (a==b)else none
 |.s,.string a,.string b=>some (a==b)
 |.b,.bool a,.bool b=>some (a==b)
 |_,_,_=>none
def Xt:List Knd->List Value->List Value->Option Bool
 |[],[],[]=>some true
 |k::ks,a::xs,b::ys=>
  match eqK k a b,Xt ks xs ys with
  |some p,some q=>some (p&&q)
  |_,_=>none
 |_,_,_=>none
def Wf (ks:List Knd) (st:Bool):Value->Value->Option Bool
 |.agg a,.agg b=>if st then Xt ks a.toList b.toList else none
 |.agg _,_=>none
 |_,.agg _=>none
 |a,b=>if st then none else Xt ks [a] [b]
def Zs (ks:List Knd) (st:Bool) (k:Value):List MapEntry->Nat->Option (Option (Nat×Value))
 |[],_=>some none
 |e::es,i=>match Wf ks st k e.key with
  |some true=>some (some (i,e.val))
  |some false=>Zs ks st k es (i+1)
  |none=>none
def findI (ks:List Knd) (st:Bool) (k:Value):List (Value×Nat)->Nat->Option (Option Nat)
 |[],_=>some none
 |e::es,i=>match Wf ks st k e.1 with
  |some true=>some (some i)
  |some false=>findI ks st k es (i+1)
  |none=>none
def isAggV:Value->Bool
 |.agg _=>true
 |_=>false
def eqCells:List Knd->List PV->List PV->Option Bool
 |[],[],[]=>some true
 |k::ks,.sc a::xs,.sc b::ys=>
  match eqK k a b,eqCells ks xs ys with
  |some p,some q=>some (p&&q)
  |_,_=>none
 |_,_,_=>none
def binV (op:BinOp):Value->Value->Option Value
 |.int k a,.int k' b=>
  match op with
  |.shl=>if b<0 then none else some (.int k (k.wrap (a*2^(min b.toNat k.bits))))
  |.shr=>if b<0 then none else some (.int k (a.fdiv (2^(min b.toNat k.bits))))
  |_=>if k≠k' then none else
   match op with
   |.add=>some (.int k (k.wrap (a+b)))
   |.sub=>some (.int k (k.wrap (a-b)))
   |.mul=>some (.int k (k.wrap (a*b)))
   |.quo=>if b=0 then none else some (.int k (k.wrap (a.tdiv b)))
   |.rem=>if b=0 then none else some (.int k (a.tmod b))
   |.and=>some (.int k (k.wrap (BitVec.ofInt k.bits a &&& BitVec.ofInt k.bits b).toNat))
   |.or=>some (.int k (k.wrap (BitVec.ofInt k.bits a ||| BitVec.ofInt k.bits b).toNat))
   |.xor=>some (.int k (k.wrap (BitVec.ofInt k.bits a ^^^ BitVec.ofInt k.bits b).toNat))
   |.andNot=>some (.int k (k.wrap (BitVec.ofInt k.bits a &&& ~~~BitVec.ofInt k.bits b).toNat))
   |.eql=>some (.bool (a==b))
   |.neq=>some (.bool (a !=b))
   |.lss=>some (.bool (a<b))
   |.leq=>some (.bool (a<=b))
   |.gtr=>some (.bool (a>b))
   |.geq=>some (.bool (a>=b))
   |_=>none
 |.string a,.string b=>
  match op with
  |.add=>if ((a.size+b.size:Nat):Int)>9223372036854775807 then none else some (.string (a++b))
  |.eql=>some (.bool (a.toList==b.toList))
  |.neq=>some (.bool !(a.toList==b.toList))
  |.lss=>some (.bool (Op.bytesLess a.toList b.toList))
  |.leq=>some (.bool (Op.bytesLess a.toList b.toList||a.toList==b.toList))
  |.gtr=>some (.bool !(Op.bytesLess a.toList b.toList||a.toList==b.toList))
  |.geq=>some (.bool !(Op.bytesLess a.toList b.toList))
  |_=>none
 |_,_=>none
def unV (op:UnOp):Value->Option Value
 |.int k n=>match op with
  |.neg=>some (.int k (k.wrap (0-n)))
  |_=>none
 |.bool b=>match op with
  |.not=>some (.bool !b)
  |_=>none
 |_=>none
def Zi:Srt->PV->Option Bool
 |.sl,.sl nl _ _ _=>some nl
 |.sl,.bs _ _ _ _ _=>some false
 |.pt,.sc (.pointer none)=>some true
 |.pt,.ip _|.pt,.bp _ _=>some false
 |.fn,.sc .nilFunc=>some true
 |.fn,.fn _ _ _=>some false
 |.mp,.sc (.map none)=>some true
 |.mp,.mp _=>some false
 |_,_=>none
def nilEq (k:Srt) (p q:PV):Option Bool:=
 match Zi k p,Zi k q with
 |some true,some b=>some b
 |some false,some true=>some false
 |_,_=>none
def toV:PV->Option Value
 |.sc v=>some v
 |.agg cs=>((cs.mapM λp:PV=>match p with|.sc v=>some v|_=>none):Option (List Value)).map λl:List Value=>.agg l.toArray
 |_=>none
def ofCell (v:Value):Option PV:=
 if plainV v then some (.sc v)else match v with
 |.slice none 0 0=>some (.sl true .full 0 [])
 |_=>none
def ofV:Value->Option PV
 |.agg cs=>(cs.toList.mapM ofCell).map .agg
 |.tuple ⟨[]⟩=>some (.tup [])
 |v=>ofCell v
def PV.asI:PV->Option Int
 |.sc (.int _ n)=>some n
 |_=>none
def bound (x:Option PV) (d:Nat):Option Nat:=
 match x with
 |none=>some d
 |some p=>match p.asI with
  |some i=>if 0<=i then some i.toNat else none
  |none=>none
def Us (r:Right) (l h n:Nat):Right:=
 match r with
 |.no=>.no
 |.full=>if h=n then .full else .no
 |.own j=>if l=0/\h=n then .own j else .no
def fillP (cells:List PV):List ((Nat×Nat)×PV)->Option (List PV)
 |[]=>some cells
 |((off,size),v)::rest=>
  if v.known=true/\v.cells.length=size/\off+size<=cells.length then fillP (cells.take off++v.cells++cells.drop (off+size)) rest else none
def Zr (H:List Blk):PV->Option (Bool×Right×Nat×List (List PV))
 |.sl nl r s es=>some (nl,r,s,es)
 |.bs k off n s full=>match H[k]? with
  |some (.cells cs)=>if off+n*s<=cs.length then some (false,if full then .full else .no,s,(List.range n).map λi=>(cs.drop (off+i*s)).take s)else none
  |_=>none
 |_=>none
def Wj (H:List Blk) (size bytes:Nat) (sp xp:PV):Option (PV×List Blk):=
 match Zr H sp,Zr H xp with
 |some (nl,r,sz,es),some (_,_,sx,xs)=>
  if xs.isEmpty then some (sp,H)
  else if ((sx==size)&&(sz==size||es.isEmpty)&&decide ((es.length+xs.length)*bytes<=140737488355328)&&decide (0<bytes)&&xs.all (·.all PV.cellP))=true then
   match nl,r with
   |true,.own j=>match H[j]? with
    |some (.grow n s')=>if n=0/\s'=size then some (.sl false (.own j) size xs,H.set j (.grow xs.length size))else none
    |_=>none
   |true,_=>some (.sl false (.own H.length) size xs,H++[.grow xs.length size])
   |false,.full=>some (.sl false (.own H.length) size (es++xs),H++[.grow (es.length+xs.length) size])
   |false,.own j=>match H[j]? with
    |some (.grow n s')=>if n=es.length/\s'=size then some (.sl false (.own j) size (es++xs),H.set j (.grow (es.length+xs.length) size))else none
    |_=>none
   |false,.no=>none
  else none
 |_,_=>none
def appendT (H:List Blk) (size bytes j n z:Nat) (xp:PV):Option (PV×List Blk):=
 match Zr H xp with
 |some (_,_,sx,xs)=>
  if ((sx==size)&&(z==size)&&!xs.isEmpty&&decide ((n+xs.length)*bytes<=140737488355328)&&decide (0<bytes)&&scL xs.flatten)=true then
   match H[j]? with
   |some (.tgrow n' s' cs)=>if n'=n/\s'=size then some (.ts j (n+xs.length) size,H.set j (.tgrow (n+xs.length) size (cs++xs.flatten)))else none
   |_=>none
  else none
 |none=>none
def Vx (H:List Blk) (size bytes:Nat) (sp xp:PV):Option (PV×List Blk):=
 match Zr H sp,Zr H xp with
 |some (nl,r,sz,es),some (_,_,sx,xs)=>
  if xs.isEmpty then some (sp,H)
  else if ((sx==size)&&(sz==size||es.isEmpty)&&decide ((es.length+xs.length)*bytes<=140737488355328)&&decide (0<bytes)&&es.all (·.all PV.cellP)&&xs.all (·.all PV.cellP))=true then
   match nl,r with
   |true,_=>some (.bs H.length 0 xs.length size false,H++[.cells xs.flatten])
   |false,.full=>some (.bs H.length 0 (es.length+xs.length) size false,H++[.cells (es++xs).flatten])
   |false,_=>none
  else none
 |_,_=>none
def appendQ (H:List Blk) (size bytes:Nat) (sp xp:PV):Option (PV×List Blk):=
 match sp with
 |.ts j n z=>appendT H size bytes j n z xp
 |_=>Vx H size bytes sp xp
def byteP (e:List PV):Option UInt8:=match e with|[.sc (.int .u8 n)]=>if 0<=n/\n<256 then some (UInt8.ofNat n.toNat)else none|_=>none
def aop (env:List PV) (H:List Blk):AOp->Option (PV×List Blk)
 |.move x=>some (x.ev env,H)
 |.pick c a b=>match c.ev env with
  |.sc (.bool t)=>some (if t then a.ev env else b.ev env,H)
  |_=>none
 |.alloc z=>some (.bp H.length 0,H++[.cells z])
 |.box x=>match x.ev env with
  |.any=>none
  |p=>some (.bp H.length 0,H++[.cells p.cells])
 |.build z parts=>(fillP z (parts.map λx=>(x.1,x.2.ev env))).map λcs=>(.agg cs,H)
 |.buildSl size parts=>
  if (parts.map λx=>x.ev env).all (λp=>p.cells.length==size&&p.cells.all PV.cellP)then
   some (.sl false .full size (parts.map λx=>(x.ev env).cells),H)else none
 |.buildM size parts=>
  if (parts.map λx=>x.ev env).all (λp=>p.cells.length==size&&p.cells.all PV.cellP)then
   some (.bs H.length 0 parts.length size true,H++[.cells ((parts.map λx=>x.ev env).flatMap PV.cells)])else none
 |.load ag x=>match x.ev env with
  |.ip cs=>(Yy ag cs).map (·,H)
  |.bp k off=>match H[k]? with
   |some (.cells cs)=>(Yy ag (cs.drop off)).map (·,H)
   |_=>none
  |.tp j n off=>match H[j]? with
   |some (.tgrow n' _ cs)=>if n'=n then (Yy ag (cs.drop off)).map (·,H)else none
   |_=>none
  |_=>none
 |.store n a v=>match a.ev env with
  |.bp k off=>match H[k]? with
   |some (.cells cs)=>
    if (v.ev env).cells.length=n/\off+n<=cs.length/\(v.ev env).cells.all PV.cellP=true then
     some (.tup [],H.set k (.cells (cs.take off++(v.ev env).cells++cs.drop (off+n))))else none
   |_=>none
  |.tp j m off=>match H[j]? with
   |some (.tgrow m' s cs)=>
    if m'=m/\(v.ev env).cells.length=n/\off+n<=cs.length/\scL (v.ev env).cells=true then
     some (.tup [],H.set j (.tgrow m s (cs.take off++(v.ev env).cells++cs.drop (off+n))))else none
   |_=>none
  |_=>none
 |.faddr off x=>match x.ev env with
  |.ip cs=>some (.ip (cs.drop off),H)
  |.bp k o=>some (.bp k (o+off),H)
  |.tp j n o=>some (.tp j n (o+off),H)
  |_=>none
 |.field off ag x=>match x.ev env with
  |.agg cs=>(Yy ag (cs.drop off)).map (·,H)
  |_=>none
 |.iaddrS size x i=>match x.ev env,(i.ev env).asI with
  |.sl _ _ sz es,some n=>if 0<=n/\sz=size then (es[n.toNat]?).map λe=>(.ip e,H)else none
  |.bs k off m sz _,some n=>if 0<=n/\n<m/\sz=size then some (.bp k (off+n.toNat*size),H)else none
  |.ts j m sz,some n=>if 0<=n/\n<m/\sz=size then some (.tp j m (n.toNat*size),H)else none
  |_,_=>none
 |.iaddrA size len x i=>match (i.ev env).asI with
  |some n=>if 0<=n/\n<len then
    match x.ev env with
    |.ip cs=>some (.ip (cs.drop (n.toNat*size)),H)
    |.bp k o=>some (.bp k (o+n.toNat*size),H)
    |_=>none
   else none
  |none=>none
 |.idxA size len ag x i=>match x.ev env,(i.ev env).asI with
  |.agg cs,some n=>if 0<=n/\n<len then (Yy ag (cs.drop (n.toNat*size))).map (·,H)else none
  |_,_=>none
 |.idxStr x i=>match x.ev env,(i.ev env).asI with
  |.sc (.string s),some n=>if 0<=n then (s[n.toNat]?).map λb=>(.sc (.int .u8 b.toNat),H)else none
  |_,_=>none
 |.slStr x lo hi=>match x.ev env with
  |.sc (.string s)=>
   match bound (lo.map (·.ev env)) 0,bound (hi.map (·.ev env)) s.size with
   |some l,some h=>if l<=h/\h<=s.size then some (.sc (.string (s.extract l h)),H)else none
   |_,_=>none
  |_=>none
 |.slSl size x lo hi mx=>match x.ev env with
  |.sl nl r s es=>
   if (nl||s==size)=true then
   match bound (lo.map (·.ev env)) 0,bound (hi.map (·.ev env)) es.length,mx.map (·.ev env)with
   |some l,some h,none=>
    if l<=h/\h<=es.length then
     some (.sl nl (Us r l h es.length) s ((es.take h).drop l),H)
    else none
   |some l,some h,some m=>
    match bound (some m) 0,hi with
    |some m,some _=>if l<=h/\h<=m/\m<=es.length then some (.sl nl (if h=m then .full else .no) s ((es.take h).drop l),H)else none
    |_,_=>none
   |_,_,_=>none
   else none
  |.bs k off n s full=>
   if s=size then
   match bound (lo.map (·.ev env)) 0,bound (hi.map (·.ev env)) n,mx.map (·.ev env)with
   |some l,some h,none=>if l<=h/\h<=n then some (.bs k (off+l*s) (h-l) s (full&&h==n),H)else none
   |some l,some h,some m=>
    match bound (some m) 0,hi with
    |some m,some _=>if l<=h/\h<=m/\m<=n then some (.bs k (off+l*s) (h-l) s (h==m),H)else none
    |_,_=>none
   |_,_,_=>none
   else none
  |_=>none
 |.bin op x y=>match x.ev env,y.ev env with
  |.sc a,.sc b=>(binV op a b).map λv=>(.sc v,H)
  |_,_=>none
 |.eqB neg x y=>match x.ev env,y.ev env with
  |.sc (.bool a),.sc (.bool b)=>some (.sc (.bool (if neg then !(a==b)else a==b)),H)
  |_,_=>none
 |.eqC ks neg x y=>match x.ev env,y.ev env with
  |.agg a,.agg b=>(eqCells ks a b).map λt=>(.sc (.bool (if neg then !t else t)),H)
  |_,_=>none
 |.eqN k neg x y=>(nilEq k (x.ev env) (y.ev env)).map λt=>(.sc (.bool (if neg then !t else t)),H)
 |.un op x=>match x.ev env with
  |.sc a=>(unV op a).map λv=>(.sc v,H)
  |_=>none
 |.convI k x=>match (x.ev env).asI with
  |some n=>some (.sc (.int k (k.wrap n)),H)
  |none=>none
 |.convS x=>match x.ev env with
  |.sc (.string s)=>some (.sc (.string s),H)
  |_=>none
 |.strBytes x=>match x.ev env with
  |.sc (.string s)=>if s.size<=1000000000 then some (.sl false .no 1 (s.data.toList.map λb=>[.sc (.int .u8 b.toNat)]),H)else none
  |_=>none
 |.bytesStr x=>match Zr H (x.ev env)with
  |some (_,_,sz,es)=>if sz=1\/es=[] then
    match es.mapM byteP with
    |some l=>some (.sc (.string ⟨l.toArray⟩),H)
    |none=>none
   else none
  |none=>none
 |.mkSl size bytes z l c=>match (l.ev env).asI,(c.ev env).asI with
  |some l,some c=>if 0<=l/\l<=c/\bytes*c<=281474976710656/\c<=9223372036854775807 then
    if l=0 then some (.sl false (.own H.length) size [],H++[.grow 0 size])
    else some (.bs H.length 0 l.toNat size (l==c),H++[.cells ((List.range (c.toNat*size)).map λi=>(z[i%z.length]?).getD .any)])
   else none
  |_,_=>none
 |.extract i x=>match x.ev env with
  |.tup vs=>(vs[i]?).map (·,H)
  |_=>none
 |.mkFn f first cap=>some (.fn f (first.map (·.ev env)) (cap.map (·.ev env)),H)
 |.nilCheck x=>match x.ev env with
  |.ip cs=>some (.ip cs,H)
  |.bp k o=>some (.bp k o,H)
  |.fn (.func f) p q=>some (.fn (.func f) p q,H)
  |_=>none
 |.mkMap=>some (.mp H.length,H++[.map [] [] 0])
 |.rangeM x=>match x.ev env with
  |.mp m=>match H[m]? with
   |some (.map _ _ clock)=>if m<H.length then some (.bp H.length 0,H++[.iter m clock [] clock])else none
   |_=>none
  |_=>none
 |.nextM x=>match x.ev env with
  |.bp k 0=>match H[k]? with
   |some (.iter m since seen last)=>match H[m]? with
    |some (.map ks vals clock)=>if (ks.all λe=>decide (e.2<since))=true/\since<=last then
      match (ks.zip vals).filter λe=>!seen.contains e.1.2 with
      |[]=>some (.tup [.sc (.bool false)],H)
      |[e]=>match ofV e.1.1 with
       |some kp=>if vals.length=ks.length then some (.tup [.sc (.bool true),kp,e.2],H.set k (.iter m since (seen++[e.1.2]) clock))else none
       |none=>none
      |_=>none
     else none
    |_=>none
   |_=>none
  |_=>none
 |.entryM x=>match x.ev env with
  |.bp k 0=>match H[k]? with
   |some (.iter m _ seen last)=>match H[m]? with
    |some (.map ks vals clock)=>if clock=last/\vals.length=ks.length then
      match seen.getLast? with
      |some stamp=>match (ks.zip vals).find? λe=>e.1.2==stamp with
       |some e=>match ofV e.1.1 with
        |some kp=>some (.tup [kp,e.2],H)
        |none=>none
       |none=>none
      |none=>none
     else none
    |_=>none
   |_=>none
  |_=>none
 |.lookup ks st zero m k ok=>match toV (k.ev env)with
  |some kv=>if isAggV kv=st/\kv.cells.size=ks.length then
    match m.ev env with
    |.sc (.map none)=>some (if ok then .tup [zero,.sc (.bool false)] else zero,H)
    |.mp b=>match H[b]? with
     |some (.map kl vals _)=>match findI ks st kv kl 0 with
      |some (some i)=>match vals[i]? with
       |some p=>some (if ok then .tup [p,.sc (.bool true)] else p,H)
       |none=>none
      |some none=>some (if ok then .tup [zero,.sc (.bool false)] else zero,H)
      |none=>none
     |_=>none
    |_=>none
   else none
  |none=>none
 |.mapUp ks st m k v=>match toV (k.ev env)with
  |some kv=>if isAggV kv=st/\kv.cells.size=ks.length then
    match m.ev env with
    |.mp b=>match H[b]? with
     |some (.map kl vals clock)=>match findI ks st kv kl 0 with
      |some (some i)=>some (.tup [],H.set b (.map kl (vals.set i (v.ev env)) clock))
      |some none=>some (.tup [],H.set b (.map (kl++[(kv,clock)]) (vals++[v.ev env]) (clock+1)))
      |none=>none
     |_=>none
    |_=>none
   else none
  |none=>none
 |.len x=>match x.ev env with
  |.sl _ _ _ es=>some (.sc (.int .i64 es.length),H)
  |.bs _ _ n _ _=>some (.sc (.int .i64 n),H)
  |.ts _ n _=>some (.sc (.int .i64 n),H)
  |_=>none
 |.lenStr x=>match x.ev env with
  |.sc (.string s)=>some (.sc (.int .i64 s.size),H)
  |_=>none
 |.append size bytes s x=>Wj H size bytes (s.ev env) (x.ev env)
 |.appendM size bytes s x=>appendQ H size bytes (s.ev env) (x.ev env)
 |.mm isMax xs=>match (xs.map (λx:Opd=>x.ev env))with
  |[PV.sc (.int k a),PV.sc (.int _ b)]=>some (.sc (.int k (if isMax then (if b>a then b else a)else (if b<a then b else a))),H)
  |_=>none
 |_=>none
end Go.PE
