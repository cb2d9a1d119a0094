/- A part of the proof. -/
import Derived.Test.YtibndgdocbbbeaaGreatPE18
import Derived.Laws.Externs
set_option linter.all false
namespace Go.PE
open Go.RowKit
theorem hOk0 (P:Program):HOk P []:=λk env ps ai bd cA cB st pend h=>by simp at h
end Go.PE
namespace Go.PE
open Go.RowKit
section
variable {α β:Type}
def fNat (n:Nat) (k:Nat->β):β:=match n with
 |.zero=>k 0
 |.succ m=>k (.succ m)
theorem Zk (n:Nat) (k:Nat->β):fNat n k=k n:=by cases n<;>rfl
def fInt (n:Int) (k:Int->β):β:=match n with
 |.ofNat m=>fNat m λm=>k (.ofNat m)
 |.negSucc m=>fNat m λm=>k (.negSucc m)
theorem fInt_eq (n:Int) (k:Int->β):fInt n k=k n:=by cases n<;>simp[fInt,Zk]
def fBool (b:Bool) (k:Bool->β):β:=match b with
 |true=>k true
 |false=>k false
theorem fBool_eq (b:Bool) (k:Bool->β):fBool b k=k b:=by cases b<;>rfl
def fV (v:Value) (k:Value->β):β:=match v with
 |.int d n=>fInt n λn=>k (.int d n)
 |.bool b=>fBool b λb=>k (.bool b)
 |.string s=>k (.string s)
 |.nilFunc=>k .nilFunc
 |v=>k v
theorem fV_eq (v:Value) (k:Value->β):fV v k=k v:=by cases v<;>simp[fV,fInt_eq,fBool_eq]
def fL (f:α->(α->β)->β):List α->(List α->β)->β
 |[],k=>k []
 |x::l,k=>f x λx=>fL f l λl=>k (x::l)
theorem fL_eq {f:α->(α->β)->β} (hf:∀ x k,f x k=k x):∀ (l:List α) (k:List α->β),fL f l k=k l
 |[],k=>rfl
 |x::l,k=>by simp only[fL,hf,fL_eq hf l]
def fId (x:α) (k:α->β):β:=k x
def fS (l:List α) (k:List α->β):β:=fL fId l k
theorem fS_eq (l:List α) (k:List α->β):fS l k=k l:=fL_eq (λ_ _=>rfl) l k
def fR (r:Right) (k:Right->β):β:=match r with
 |.no=>k .no
 |.full=>k .full
 |.own j=>fNat j λj=>k (.own j)
theorem fR_eq (r:Right) (k:Right->β):fR r k=k r:=by cases r<;>simp[fR,Zk]
def fP:Nat->PV->(PV->β)->β
 |0,p,k=>k p
 |n+1,p,k=>match p with
  |.any=>k .any
  |.sc v=>fV v λv=>k (.sc v)
  |.agg cs=>fL (fP n) cs λcs=>k (.agg cs)
  |.tup cs=>fL (fP n) cs λcs=>k (.tup cs)
  |.sl nl r s es=>fBool nl λnl=>fR r λr=>fNat s λs=>fL (fL (fP n)) es λes=>k (.sl nl r s es)
  |.ip cs=>fL (fP n) cs λcs=>k (.ip cs)
  |.bp j o=>fNat j λj=>fNat o λo=>k (.bp j o)
  |.fn f p q=>fL (fP n) p λp=>fL (fP n) q λq=>k (.fn f p q)
  |.mp j=>fNat j λj=>k (.mp j)
  |.bs j o m s full=>fNat j λj=>fNat o λo=>fNat m λm=>fNat s λs=>fBool full λfull=>k (.bs j o m s full)
  |.yl j=>fNat j λj=>k (.yl j)
theorem fP_eq:∀ (n:Nat) (p:PV) (k:PV->β),fP n p k=k p
 |0,p,k=>rfl
 |n+1,p,k=>by
  have ih:=fP_eq n
  cases p<;>simp only[fP,fV_eq,fBool_eq,Zk,fR_eq,fL_eq ih,fL_eq (fL_eq ih)]
def fB (x:Blk) (k:Blk->β):β:=match x with
 |.cells cs=>fL (fP 3) cs λcs=>k (.cells cs)
 |.map ks vals c=>fS ks λks=>fL (fP 3) vals λvals=>fNat c λc=>k (.map ks vals c)
 |.iter m a b c=>fS b λb=>k (.iter m a b c)
 |.grow n s=>fNat n λn=>fNat s λs=>k (.grow n s)
 |.loop env ps ai bd cA cB st pend=>k (.loop env ps ai bd cA cB st pend)
theorem fB_eq (x:Blk) (k:Blk->β):fB x k=k x:=by cases x<;>simp only[fB,fS_eq,Zk,fL_eq (fP_eq 3)]
def fAt:List Blk->Nat->(List Blk->β)->β
 |[],_,k=>k []
 |x::l,i,k=>match i with
  |0=>fB x λx=>fS l λl=>k (x::l)
  |i+1=>fAt l i λl=>k (x::l)
theorem fAt_eq:∀ (l:List Blk) (i:Nat) (k:List Blk->β),fAt l i k=k l
 |[],_,k=>rfl
 |x::l,0,k=>by simp only[fAt,fB_eq,fS_eq]
 |x::l,i+1,k=>by simp only[fAt,fAt_eq l i]
end
inductive T where
 |e
 |n (l:T) (v:PV) (r:T)
 deriving Inhabited
def getT:T->Nat->PV
 |.e,_=>.tup []
 |.n l v r,i=>match i with
  |0=>v
  |j+1=>match Nat.mod j 2 with
   |0=>getT l (Nat.div j 2)
   |_+1=>getT r (Nat.div j 2)
def setK {β:Type}:Nat->T->Nat->PV->(T->β)->β
 |0,t,_,_,k=>k t
 |f+1,t,i,v,k=>match t with
  |.e=>(match i with
   |0=>k (.n .e v .e)
   |j+1=>match Nat.mod j 2 with
    |0=>setK f .e (Nat.div j 2) v λl=>k (.n l (.tup []) .e)
    |_+1=>setK f .e (Nat.div j 2) v λr=>k (.n .e (.tup []) r))
  |.n l u r=>match i with
   |0=>k (.n l v r)
   |j+1=>match Nat.mod j 2 with
    |0=>setK f l (Nat.div j 2) v λl=>k (.n l u r)
    |_+1=>setK f r (Nat.div j 2) v λr=>k (.n l u r)
def setT (f:Nat) (t:T) (i:Nat) (v:PV):T:=setK f t i v id
theorem mod2 (a:Nat):Nat.mod a 2=0\/Nat.mod a 2=0+1:=Nat.mod_two_eq_zero_or_one a
theorem setK_eq {β:Type}:∀ (f:Nat) (t:T) (i:Nat) (v:PV) (k:T->β),setK f t i v k=k (setT f t i v)
 |0,t,i,v,k=>rfl
 |f+1,t,i,v,k=>by
  have ih:=λt i v (k:T->β)=>setK_eq f t i v k
  have ih2:=λt i v (k:T->T)=>setK_eq f t i v k
  cases t with
  |e=>cases i with
   |zero=>rfl
   |succ j=>rcases mod2 j with h|h<;>(unfold setT;simp only[setK,h];rw[ih,ih2];rfl)
  |n l u r=>cases i with
   |zero=>rfl
   |succ j=>rcases mod2 j with h|h<;>(unfold setT;simp only[setK,h];rw[ih,ih2];rfl)
theorem getT_e (i:Nat):getT .e i=.tup []:=rfl
theorem getT_zero (l r:T) (v:PV):getT (.n l v r) 0=v:=rfl
theorem getT_l (l r:T) (v:PV) {j:Nat} (h:Nat.mod j 2=0):getT (.n l v r) (j+1)=getT l (Nat.div j 2):=by
 show(match Nat.mod j 2 with|0=>_|_+1=>_)=_
 rw[h]
theorem getT_r (l r:T) (v:PV) {j:Nat} (h:Nat.mod j 2=0+1):getT (.n l v r) (j+1)=getT r (Nat.div j 2):=by
 show(match Nat.mod j 2 with|0=>_|_+1=>_)=_
 rw[h]
theorem getT_set:∀ (f:Nat) (t:T) (i:Nat) (v:PV) (j:Nat),i+1<2^f->getT (setT f t i v) j=if j=i then v else getT t j
 |0,t,i,v,j,h=>by simp at h
 |f+1,t,i,v,j,h=>by
  have ih:=λt i v j h=>getT_set f t i v j h
  have hp:2^(f+1)=2*2^f:=by rw[Nat.pow_succ];omega
  have hm:∀ a:Nat,Nat.mod a 2=a%2:=λ_=>rfl
  have hd:∀ a:Nat,Nat.div a 2=a / 2:=λ_=>rfl
  have key:∀ l u r,(∀ j,j≠0->t=.e->getT (.n l u r) j=.tup [])->(t=.n l u r\/(t=.e/\l=.e/\u=.tup []/\r=.e))->getT (setT (f+1) t i v) j=if j=i then v else getT (.n l u r) j:=λl u r _ ht=>by
   have e:setT (f+1) t i v=match i with
     |0=>.n l v r
     |a+1=>match Nat.mod a 2 with
      |0=>.n (setT f l (Nat.div a 2) v) u r
      |_+1=>.n l u (setT f r (Nat.div a 2) v):=by
    rcases ht with rfl|⟨rfl,rfl,rfl,rfl⟩
    all_goals
     cases i with
     |zero=>rfl
     |succ a=>rcases mod2 a with h|h<;>(unfold setT;simp only[setK,h];rw[setK_eq];rfl)
   rw[e]
   cases i with
   |zero=>
    cases j with
    |zero=>rfl
    |succ b=>rcases mod2 b with hb|hb<;>simp[getT_l,getT_r,hb]
   |succ a=>
    rcases mod2 a with ha|ha
    ·simp only[ha]
     cases j with
     |zero=>simp[getT_zero]
     |succ b=>
      rcases mod2 b with hb|hb
      ·rw[getT_l _ _ _ hb,getT_l _ _ _ hb,ih _ _ _ _ (by rw[hd];omega)]
       rw[hm]at ha hb
       rw[hd,hd]
       by_cases e:b=a
       ·subst e;simp
       ·rw[if_neg (by omega),if_neg (by omega)]
      ·rw[getT_r _ _ _ hb,getT_r _ _ _ hb]
       rw[hm]at ha hb
       rw[if_neg (by omega)]
    ·simp only[ha]
     cases j with
     |zero=>simp[getT_zero]
     |succ b=>
      rcases mod2 b with hb|hb
      ·rw[getT_l _ _ _ hb,getT_l _ _ _ hb]
       rw[hm]at ha hb
       rw[if_neg (by omega)]
      ·rw[getT_r _ _ _ hb,getT_r _ _ _ hb,ih _ _ _ _ (by rw[hd];omega)]
       rw[hm]at ha hb
       rw[hd,hd]
       by_cases e:b=a
       ·subst e;simp
       ·rw[if_neg (by omega),if_neg (by omega)]
  cases t with
  |e=>
   rw[key .e (.tup []) .e (λ_ _ _=>by rename_i b hb _;cases b with
    |zero=>exact absurd rfl hb
    |succ b=>rcases mod2 b with h|h<;>simp[getT_l,getT_r,h,getT_e]) (.inr ⟨rfl,rfl,rfl,rfl⟩)]
   cases j with
   |zero=>rfl
   |succ b=>rcases mod2 b with h|h<;>simp[getT_l,getT_r,h,getT_e]
  |n l u r=>exact key l u r (λ_ _ e=>by cases e) (.inl rfl)
structure E where
 n:Nat
 t:T
 m:Option (List Nat)
def E.base (e:E):List PV:=(List.range e.n).map (getT e.t)
def E.toL (e:E):List PV:=match e.m with
 |none=>e.base
 |some ts=>Yo ts e.base
def memN:List Nat->Nat->Bool
 |[],_=>false
 |x::l,i=>match Nat.beq x i with
  |true=>true
  |false=>memN l i
theorem memN_eq:∀ (l:List Nat) (i:Nat),memN l i=l.contains i
 |[],i=>rfl
 |x::l,i=>by
  simp only[memN,memN_eq l i,List.contains_cons]
  have:Nat.beq x i=(i==x):=by
   rw[Bool.eq_iff_iff]
   simp only[Nat.beq_eq,beq_iff_eq]
   exact⟨λh=>h.symm,λh=>h.symm⟩
  rw[this]
  cases i==x<;>simp
def E.get (e:E) (i:Nat):PV:=match e with
 |⟨n,t,m⟩=>match Nat.blt i n with
  |true=>match m with
   |none=>getT t i
   |some ts=>match memN ts i with
    |true=>getT t i
    |false=>.any
  |false=>.any
theorem blt_t {a b:Nat} (h:Nat.blt a b=true):a<b:=by simpa [Nat.blt_eq] using h
theorem blt_f {a b:Nat} (h:Nat.blt a b=false):¬ a<b:=λhl=>by
 have:Nat.blt a b=true:=by simpa [Nat.blt_eq] using hl
 rw[this]at h;cases h
theorem Uj (e:E) (i:Nat):e.base[i]?=if i<e.n then some (getT e.t i)else none:=by
 unfold E.base
 rw[List.getElem?_map]
 by_cases h:i<e.n
 ·simp[h]
 ·simp[h]
theorem E.get_eq (e:E) (i:Nat):e.get i=(e.toL[i]?).getD .any:=by
 obtain⟨n,t,m⟩:=e
 unfold E.get E.toL
 simp only
 cases hb:Nat.blt i n with
 |true=>
  have h:i<n:=blt_t hb
  cases m with
  |none=>simp only[Uj,if_pos h,Option.getD_some]
  |some ts=>
   simp only[memN_eq,Yo,List.getElem?_mapIdx,Uj,if_pos h,Option.map_some,Option.getD_some]
   cases ts.contains i<;>simp
 |false=>
  have h:¬ i<n:=blt_f hb
  cases m with
  |none=>simp only[Uj,if_neg h,Option.getD_none]
  |some ts=>simp only[Yo,List.getElem?_mapIdx,Uj,if_neg h,Option.map_none,Option.getD_none]
def evE (x:Opd) (e:E):PV:=match x with
 |.t i=>e.get i
 |.c p=>p
theorem evE_eq (x:Opd) (e:E):evE x e=x.ev e.toL:=by
 cases x with
 |t i=>exact E.get_eq e i
 |c p=>rfl
def E.ok (e:E):Prop:=e.n<=65000/\e.m=none
def E.put (e:E) (d:Option Nat) (p:PV):E:=match d with
 |none=>e
 |some d=>match Nat.blt d e.n with
  |true=>⟨e.n,setT 16 e.t d p,e.m⟩
  |false=>e
def gPut {β:Type} (e:E) (d:Option Nat) (p:PV) (k:E->β):β:=match d with
 |none=>k e
 |some d=>match e with
  |⟨n,t,m⟩=>match Nat.blt d n with
   |true=>setK 16 t d p λt=>k ⟨n,t,m⟩
   |false=>k ⟨n,t,m⟩
theorem gPut_eq {β:Type} (e:E) (d:Option Nat) (p:PV) (k:E->β):gPut e d p k=k (e.put d p):=by
 unfold gPut E.put
 cases d with
 |none=>rfl
 |some d=>
  obtain⟨n,t,m⟩:=e
  cases h:Nat.blt d n<;>simp only[setK_eq,h]
theorem E.put_t {e:E} {d:Nat} (p:PV) (h:Nat.blt d e.n=true):e.put (some d) p=⟨e.n,setT 16 e.t d p,e.m⟩:=by
 unfold E.put;simp only[h]
theorem E.put_f {e:E} {d:Nat} (p:PV) (h:Nat.blt d e.n=false):e.put (some d) p=e:=by
 unfold E.put;simp only[h]
theorem E.put_ok {e:E} (h:e.ok) (d:Option Nat) (p:PV):(e.put d p).ok/\(e.put d p).toL=putE e.toL d p:=by
 obtain⟨h1,h2⟩:=h
 have hl:e.toL=e.base:=by simp only[E.toL,h2]
 cases d with
 |none=>exact⟨⟨h1,h2⟩,rfl⟩
 |some d=>
  cases hb:Nat.blt d e.n with
  |true=>
   have hd:d<e.n:=blt_t hb
   rw[E.put_t p hb]
   refine⟨⟨h1,h2⟩,?_⟩
   rw[hl]
   simp only[E.toL,h2,putE]
   apply List.ext_getElem?
   intro i
   rw[Uj,List.getElem?_set,Uj]
   simp only[getT_set 16 e.t d p i (by omega)]
   by_cases hi:d=i
   ·subst hi;simp[hd,E.base]
   ·have hi2:¬ i=d:=λq=>hi q.symm
    simp only[if_neg hi,if_neg hi2]
  |false=>
   have hd:¬ d<e.n:=blt_f hb
   rw[E.put_f p hb]
   refine⟨⟨h1,h2⟩,?_⟩
   rw[hl]
   simp only[putE]
   rw[List.set_eq_of_length_le]
   have:e.base.length=e.n:=by simp[E.base]
   omega
def ofL {β:Type}:List PV->Nat->T->(T->β)->β
 |[],_,t,k=>k t
 |p::l,i,t,k=>setK 16 t i p λt=>ofL l (i+1) t k
def ofLT:List PV->Nat->T->T
 |[],_,t=>t
 |p::l,i,t=>ofLT l (i+1) (setT 16 t i p)
theorem ofL_eq {β:Type}:∀ (l:List PV) (i:Nat) (t:T) (k:T->β),ofL l i t k=k (ofLT l i t)
 |[],_,_,_=>rfl
 |p::l,i,t,k=>by simp only[ofL,ofLT,setK_eq,ofL_eq l]
theorem ofLT_get:∀ (l:List PV) (i:Nat) (t:T) (j:Nat),i+l.length<=65000->getT (ofLT l i t) j=if i<=j then (match l[j-i]? with|some p=>p|none=>getT t j)else getT t j
 |[],i,t,j,_=>by simp[ofLT]
 |p::l,i,t,j,h=>by
  have h':i+(l.length+1)<=65000:=by simpa using h
  simp only[ofLT]
  rw[ofLT_get l (i+1) (setT 16 t i p) j (by omega),getT_set 16 t i p j (by omega)]
  by_cases h1:i+1<=j
  ·rw[if_pos h1,if_pos (show i<=j by omega),show j-i=(j-(i+1))+1 by omega,List.getElem?_cons_succ,if_neg (show ¬ j=i by omega)]
  ·rw[if_neg h1]
   by_cases h2:j=i
   ·subst h2;simp
   ·rw[if_neg h2,if_neg (show ¬ i<=j by omega)]
def E.enter (args:List PV) (nt:Nat):E:=⟨args.length+(nt-args.length),ofLT args 0 .e,none⟩
theorem E.enter_ok {args:List PV} {nt:Nat} (h:args.length+(nt-args.length)<=65000):(E.enter args nt).ok/\(E.enter args nt).toL=args++List.replicate (nt-args.length) (.tup []):=by
 refine⟨⟨h,rfl⟩,?_⟩
 show(E.enter args nt).base=_
 apply List.ext_getElem?
 intro i
 rw[Uj]
 simp only[E.enter]
 rw[ofLT_get args 0 .e i (by omega)]
 simp only[Nat.zero_le,if_true,Nat.sub_zero]
 by_cases h1:i<args.length
 ·rw[if_pos (by omega),List.getElem?_append_left h1,List.getElem?_eq_getElem h1]
 ·rw[List.getElem?_append_right (by omega),List.getElem?_replicate,List.getElem?_eq_none (by omega)]
  by_cases h2:i<args.length+(nt-args.length)
  ·rw[if_pos h2,if_pos (by omega),getT_e]
  ·rw[if_neg h2,if_neg (by omega)]
def a_move (x:Opd) (env:E) (H:List Blk):Option (PV×List Blk):=some (evE x env,H)
def a_pick (c:Opd) (a:Opd) (b:Opd) (env:E) (H:List Blk):Option (PV×List Blk):=match evE c env with
  |.sc (.bool t)=>some (if t then evE a env else evE b env,H)
  |_=>none
def a_alloc (z:List PV) (env:E) (H:List Blk):Option (PV×List Blk):=some (.bp H.length 0,H++[.cells z])
def a_box (x:Opd) (env:E) (H:List Blk):Option (PV×List Blk):=match evE x env with
  |.any=>none
  |p=>some (.bp H.length 0,H++[.cells p.cells])
def a_build (z:List PV) (parts:List ((Nat×Nat)×Opd)) (env:E) (H:List Blk):Option (PV×List Blk):=(fillP z (parts.map λx=>(x.1,evE x.2 env))).map λcs=>(.agg cs,H)
def a_buildSl (size:Nat) (parts:List Opd) (env:E) (H:List Blk):Option (PV×List Blk):=
  if (parts.map λx=>evE x env).all (λp=>p.cells.length==size&&p.cells.all PV.cellP)then
   some (.sl false .full size (parts.map λx=>(evE x env).cells),H)else none
def a_buildM (size:Nat) (parts:List Opd) (env:E) (H:List Blk):Option (PV×List Blk):=
  if (parts.map λx=>evE x env).all (λp=>p.cells.length==size&&p.cells.all PV.cellP)then
   some (.bs H.length 0 parts.length size true,H++[.cells ((parts.map λx=>evE x env).flatMap PV.cells)])else none
def a_load (ag:Option Nat) (x:Opd) (env:E) (H:List Blk):Option (PV×List Blk):=match evE x env with
  |.ip cs=>(Yt ag cs).map (·,H)
  |.bp k off=>match H[k]? with
   |some (.cells cs)=>(Yt ag (cs.drop off)).map (·,H)
   |_=>none
  |_=>none
def a_store (n:Nat) (a:Opd) (v:Opd) (env:E) (H:List Blk):Option (PV×List Blk):=match evE a env with
  |.bp k off=>match H[k]? with
   |some (.cells cs)=>
    if (evE v env).cells.length=n/\off+n<=cs.length/\(evE v env).cells.all PV.cellP=true then
     some (.tup [],H.set k (.cells (cs.take off++(evE v env).cells++cs.drop (off+n))))else none
   |_=>none
  |_=>none
def a_faddr (off:Nat) (x:Opd) (env:E) (H:List Blk):Option (PV×List Blk):=match evE x env with
  |.ip cs=>some (.ip (cs.drop off),H)
  |.bp k o=>some (.bp k (o+off),H)
  |_=>none
def a_field (off:Nat) (ag:Option Nat) (x:Opd) (env:E) (H:List Blk):Option (PV×List Blk):=match evE x env with
  |.agg cs=>(Yt ag (cs.drop off)).map (·,H)
  |_=>none
def a_iaddrS (size:Nat) (x:Opd) (i:Opd) (env:E) (H:List Blk):Option (PV×List Blk):=match evE x env,(evE i env).asI with
  |.sl _ _ sz es,some n=>if 0<=n/\sz=size then (es[n.toNat]?).map λe=>(.ip e,H)else none
  |.bs k off m sz _,some n=>if 0<=n/\n<m/\sz=size then some (.bp k (off+n.toNat*size),H)else none
  |_,_=>none
def a_iaddrA (size:Nat) (len:Nat) (x:Opd) (i:Opd) (env:E) (H:List Blk):Option (PV×List Blk):=match (evE i env).asI with
  |some n=>if 0<=n/\n<len then
    match evE x env with
    |.ip cs=>some (.ip (cs.drop (n.toNat*size)),H)
    |.bp k o=>some (.bp k (o+n.toNat*size),H)
    |_=>none
   else none
  |none=>none
def a_idxA (size:Nat) (len:Nat) (ag:Option Nat) (x:Opd) (i:Opd) (env:E) (H:List Blk):Option (PV×List Blk):=match evE x env,(evE i env).asI with
  |.agg cs,some n=>if 0<=n/\n<len then (Yt ag (cs.drop (n.toNat*size))).map (·,H)else none
  |_,_=>none
def a_idxStr (x:Opd) (i:Opd) (env:E) (H:List Blk):Option (PV×List Blk):=match evE x env,(evE i env).asI with
  |.sc (.string s),some n=>if 0<=n then (s[n.toNat]?).map λb=>(.sc (.int .u8 b.toNat),H)else none
  |_,_=>none
def a_slStr (x:Opd) (lo:Option Opd) (hi:Option Opd) (env:E) (H:List Blk):Option (PV×List Blk):=match evE x env with
  |.sc (.string s)=>
   match Zc (lo.map (evE · env)) 0,Zc (hi.map (evE · env)) s.size with
   |some l,some h=>if l<=h/\h<=s.size then some (.sc (.string (s.extract l h)),H)else none
   |_,_=>none
  |_=>none
def a_slSl (size:Nat) (x:Opd) (lo:Option Opd) (hi:Option Opd) (mx:Option Opd) (env:E) (H:List Blk):Option (PV×List Blk):=match evE x env with
  |.sl nl r s es=>
   if (nl||s==size)=true then
   match Zc (lo.map (evE · env)) 0,Zc (hi.map (evE · env)) es.length,mx.map (evE · env)with
   |some l,some h,none=>
    if l<=h/\h<=es.length then
     some (.sl nl (Vh r l h es.length) s ((es.take h).drop l),H)
    else none
   |some l,some h,some m=>
    match Zc (some m) 0,hi with
    |some m,some _=>if l<=h/\h<=m/\m<=es.length then some (.sl nl (if h=m then .full else .no) s ((es.take h).drop l),H)else none
    |_,_=>none
   |_,_,_=>none
   else none
  |.bs k off n s full=>
   if s=size then
   match Zc (lo.map (evE · env)) 0,Zc (hi.map (evE · env)) n,mx.map (evE · env)with
   |some l,some h,none=>if l<=h/\h<=n then some (.bs k (off+l*s) (h-l) s (full&&h==n),H)else none
   |some l,some h,some m=>
    match Zc (some m) 0,hi with
    |some m,some _=>if l<=h/\h<=m/\m<=n then some (.bs k (off+l*s) (h-l) s (h==m),H)else none
    |_,_=>none
   |_,_,_=>none
   else none
  |_=>none
def a_bin (op:BinOp) (x:Opd) (y:Opd) (env:E) (H:List Blk):Option (PV×List Blk):=match evE x env,evE y env with
  |.sc a,.sc b=>(binV op a b).map λv=>(.sc v,H)
  |_,_=>none
def a_eqB (neg:Bool) (x:Opd) (y:Opd) (env:E) (H:List Blk):Option (PV×List Blk):=match evE x env,evE y env with
  |.sc (.bool a),.sc (.bool b)=>some (.sc (.bool (if neg then !(a==b)else a==b)),H)
  |_,_=>none
def a_eqC (ks:List Knd) (neg:Bool) (x:Opd) (y:Opd) (env:E) (H:List Blk):Option (PV×List Blk):=match evE x env,evE y env with
  |.agg a,.agg b=>(eqCells ks a b).map λt=>(.sc (.bool (if neg then !t else t)),H)
  |_,_=>none
def a_eqN (k:Srt) (neg:Bool) (x:Opd) (y:Opd) (env:E) (H:List Blk):Option (PV×List Blk):=(nilEq k (evE x env) (evE y env)).map λt=>(.sc (.bool (if neg then !t else t)),H)
def a_un (op:UnOp) (x:Opd) (env:E) (H:List Blk):Option (PV×List Blk):=match evE x env with
  |.sc a=>(unV op a).map λv=>(.sc v,H)
  |_=>none
def a_convI (k:IntKind) (x:Opd) (env:E) (H:List Blk):Option (PV×List Blk):=match (evE x env).asI with
  |some n=>some (.sc (.int k (k.wrap n)),H)
  |none=>none
def a_convS (x:Opd) (env:E) (H:List Blk):Option (PV×List Blk):=match evE x env with
  |.sc (.string s)=>some (.sc (.string s),H)
  |_=>none
def a_strBytes (x:Opd) (env:E) (H:List Blk):Option (PV×List Blk):=match evE x env with
  |.sc (.string s)=>if s.size<=1000000000 then some (.sl false .no 1 (s.data.toList.map λb=>[.sc (.int .u8 b.toNat)]),H)else none
  |_=>none
def a_bytesStr (x:Opd) (env:E) (H:List Blk):Option (PV×List Blk):=match Zs H (evE x env)with
  |some (_,_,sz,es)=>if sz=1\/es=[] then
    match es.mapM byteP with
    |some l=>some (.sc (.string ⟨l.toArray⟩),H)
    |none=>none
   else none
  |none=>none
def a_mkSl (size:Nat) (bytes:Nat) (z:List PV) (l:Opd) (c:Opd) (env:E) (H:List Blk):Option (PV×List Blk):=match (evE l env).asI,(evE c env).asI with
  |some l,some c=>if 0<=l/\l<=c/\bytes*c<=281474976710656/\c<=9223372036854775807 then
    if l=0 then some (.sl false (.own H.length) size [],H++[.grow 0 size])
    else some (.bs H.length 0 l.toNat size (l==c),H++[.cells ((List.range (c.toNat*size)).map λi=>(z[i%z.length]?).getD .any)])
   else none
  |_,_=>none
def a_extract (i:Nat) (x:Opd) (env:E) (H:List Blk):Option (PV×List Blk):=match evE x env with
  |.tup vs=>(vs[i]?).map (·,H)
  |_=>none
def a_mkFn (f:Fn) (first:List Opd) (cap:List Opd) (env:E) (H:List Blk):Option (PV×List Blk):=some (.fn f (first.map (evE · env)) (cap.map (evE · env)),H)
def a_nilCheck (x:Opd) (env:E) (H:List Blk):Option (PV×List Blk):=match evE x env with
  |.ip cs=>some (.ip cs,H)
  |.bp k o=>some (.bp k o,H)
  |.fn (.func f) p q=>some (.fn (.func f) p q,H)
  |_=>none
def a_mkMap (env:E) (H:List Blk):Option (PV×List Blk):=some (.mp H.length,H++[.map [] [] 0])
def a_rangeM (x:Opd) (env:E) (H:List Blk):Option (PV×List Blk):=match evE x env with
  |.mp m=>match H[m]? with
   |some (.map _ _ clock)=>if m<H.length then some (.bp H.length 0,H++[.iter m clock [] clock])else none
   |_=>none
  |_=>none
def a_nextM (x:Opd) (env:E) (H:List Blk):Option (PV×List Blk):=match evE x env with
  |.bp k 0=>match H[k]? with
   |some (.iter m since seen last)=>match H[m]? with
    |some (.map ks vals clock)=>if (ks.all λe=>decide (e.2<since))=true/\since<=last then
      match (ks.zip vals).filter λe=>!seen.contains e.1.2 with
      |[]=>some (.tup [.sc (.bool false)],H)
      |[e]=>match ofV e.1.1 with
       |some kp=>if vals.length=ks.length then some (.tup [.sc (.bool true),kp,e.2],H.set k (.iter m since (seen++[e.1.2]) clock))else none
       |none=>none
      |_=>none
     else none
    |_=>none
   |_=>none
  |_=>none
def a_entryM (x:Opd) (env:E) (H:List Blk):Option (PV×List Blk):=match evE x env with
  |.bp k 0=>match H[k]? with
   |some (.iter m _ seen last)=>match H[m]? with
    |some (.map ks vals clock)=>if clock=last/\vals.length=ks.length then
      match seen.getLast? with
      |some stamp=>match (ks.zip vals).find? λe=>e.1.2==stamp with
       |some e=>match ofV e.1.1 with
        |some kp=>some (.tup [kp,e.2],H)
        |none=>none
       |none=>none
      |none=>none
     else none
    |_=>none
   |_=>none
  |_=>none
def a_lookup (ks:List Knd) (st:Bool) (zero:PV) (m:Opd) (k:Opd) (ok:Bool) (env:E) (H:List Blk):Option (PV×List Blk):=match toV (evE k env)with
  |some kv=>if Wx kv=st/\kv.cells.size=ks.length then
    match evE m env with
    |.sc (.map none)=>some (if ok then .tup [zero,.sc (.bool false)] else zero,H)
    |.mp b=>match H[b]? with
     |some (.map kl vals _)=>match findI ks st kv kl 0 with
      |some (some i)=>match vals[i]? with
       |some p=>some (if ok then .tup [p,.sc (.bool true)] else p,H)
       |none=>none
      |some none=>some (if ok then .tup [zero,.sc (.bool false)] else zero,H)
      |none=>none
     |_=>none
    |_=>none
   else none
  |none=>none
def a_mapUp (ks:List Knd) (st:Bool) (m:Opd) (k:Opd) (v:Opd) (env:E) (H:List Blk):Option (PV×List Blk):=match toV (evE k env)with
  |some kv=>if Wx kv=st/\kv.cells.size=ks.length then
    match evE m env with
    |.mp b=>match H[b]? with
     |some (.map kl vals clock)=>match findI ks st kv kl 0 with
      |some (some i)=>some (.tup [],H.set b (.map kl (vals.set i (evE v env)) clock))
      |some none=>some (.tup [],H.set b (.map (kl++[(kv,clock)]) (vals++[evE v env]) (clock+1)))
      |none=>none
     |_=>none
    |_=>none
   else none
  |none=>none
def a_len (x:Opd) (env:E) (H:List Blk):Option (PV×List Blk):=match evE x env with
  |.sl _ _ _ es=>some (.sc (.int .i64 es.length),H)
  |.bs _ _ n _ _=>some (.sc (.int .i64 n),H)
  |_=>none
def a_lenStr (x:Opd) (env:E) (H:List Blk):Option (PV×List Blk):=match evE x env with
  |.sc (.string s)=>some (.sc (.int .i64 s.size),H)
  |_=>none
def a_append (size:Nat) (bytes:Nat) (s:Opd) (x:Opd) (env:E) (H:List Blk):Option (PV×List Blk):=Zq H size bytes (evE s env) (evE x env)
def a_appendM (size:Nat) (bytes:Nat) (s:Opd) (x:Opd) (env:E) (H:List Blk):Option (PV×List Blk):=appendQ H size bytes (evE s env) (evE x env)
def a_mm (isMax:Bool) (xs:List Opd) (env:E) (H:List Blk):Option (PV×List Blk):=match (xs.map (λx:Opd=>evE x env))with
  |[PV.sc (.int k a),PV.sc (.int _ b)]=>some (.sc (.int k (if isMax then (if b>a then b else a)else (if b<a then b else a))),H)
  |_=>none
def a_none (_:E) (_:List Blk):Option (PV×List Blk):=none
def aopG (op:AOp):E->List Blk->Option (PV×List Blk):=match op with
 |.move x=>a_move x
 |.pick c a b=>a_pick c a b
 |.alloc z=>a_alloc z
 |.box x=>a_box x
 |.build z parts=>a_build z parts
 |.buildSl size parts=>a_buildSl size parts
 |.buildM size parts=>a_buildM size parts
 |.load ag x=>a_load ag x
 |.store n a v=>a_store n a v
 |.faddr off x=>a_faddr off x
 |.field off ag x=>a_field off ag x
 |.iaddrS size x i=>a_iaddrS size x i
 |.iaddrA size len x i=>a_iaddrA size len x i
 |.idxA size len ag x i=>a_idxA size len ag x i
 |.idxStr x i=>a_idxStr x i
 |.slStr x lo hi=>a_slStr x lo hi
 |.slSl size x lo hi mx=>a_slSl size x lo hi mx
 |.bin op x y=>a_bin op x y
 |.eqB neg x y=>a_eqB neg x y
 |.eqC ks neg x y=>a_eqC ks neg x y
 |.eqN k neg x y=>a_eqN k neg x y
 |.un op x=>a_un op x
 |.convI k x=>a_convI k x
 |.convS x=>a_convS x
 |.strBytes x=>a_strBytes x
 |.bytesStr x=>a_bytesStr x
 |.mkSl size bytes z l c=>a_mkSl size bytes z l c
 |.extract i x=>a_extract i x
 |.mkFn f first cap=>a_mkFn f first cap
 |.nilCheck x=>a_nilCheck x
 |.mkMap=>a_mkMap
 |.rangeM x=>a_rangeM x
 |.nextM x=>a_nextM x
 |.entryM x=>a_entryM x
 |.lookup ks st zero m k ok=>a_lookup ks st zero m k ok
 |.mapUp ks st m k v=>a_mapUp ks st m k v
 |.len x=>a_len x
 |.lenStr x=>a_lenStr x
 |.append size bytes s x=>a_append size bytes s x
 |.appendM size bytes s x=>a_appendM size bytes s x
 |.mm isMax xs=>a_mm isMax xs
 |_=>a_none
theorem aopG_eq (op:AOp) (env:E) (H:List Blk):aopG op env H=aop env.toL H op:=by
 cases op<;>simp only[aopG,aop,a_move,a_pick,a_alloc,a_box,a_build,a_buildSl,a_buildM,a_load,a_store,a_faddr,a_field,a_iaddrS,a_iaddrA,a_idxA,a_idxStr,a_slStr,a_slSl,a_bin,a_eqB,a_eqC,a_eqN,a_un,a_convI,a_convS,a_strBytes,a_bytesStr,a_mkSl,a_extract,a_mkFn,a_nilCheck,a_mkMap,a_rangeM,a_nextM,a_entryM,a_lookup,a_mapUp,a_len,a_lenStr,a_append,a_appendM,a_mm,a_none,evE_eq]
 all_goals rfl
def asCall (op:AOp):Option (Opd×List Opd):=match op with
 |.call f args=>some (f,args)
 |_=>none
def chg (op:AOp):Bool:=match op with
 |.alloc _|.box _|.store ..|.buildM ..|.mkSl ..|.append ..|.appendM ..|.mkMap|.mapUp ..|.rangeM _|.nextM _=>true
 |_=>false
def loMap (m:Opd) (env:E) (_:List Blk):Nat:=match evE m env with|.mp k=>k|_=>0
def loPtr (a:Opd) (env:E) (_:List Blk):Nat:=match evE a env with|.bp k _=>k|_=>0
def loApp (s:Opd) (env:E) (H:List Blk):Nat:=match evE s env with|.sl _ (.own j) _ _=>j|_=>H.length
def loLen (_:E) (H:List Blk):Nat:=H.length
def loG (op:AOp):E->List Blk->Nat:=match op with
 |.store _ a _=>loPtr a
 |.mapUp _ _ m _ _=>loMap m
 |.nextM x=>loPtr x
 |.append _ _ s _=>loApp s
 |_=>loLen
theorem loG_eq (op:AOp) (env:E) (H:List Blk):loG op env H=loOf op env.toL H:=by cases op<;>simp only[loG,loOf,loMap,loPtr,loApp,loLen,evE_eq]<;>rfl
abbrev Res3:=Option (PV×List Blk×Nat)
def gOp (op:AOp) (env:E) (H:List Blk):Res3:=
 match aopG op env H with
 |some (p,H')=>fP 3 p λp=>fNat (loG op env H) λlo=>
  match chg op with
  |true=>fAt H' lo λH'=>some (p,H',lo)
  |false=>some (p,H,lo)
 |none=>none
theorem chg_no {op:AOp} (h:chg op=false) {env:List PV} {H H':List Blk} {p:PV} (ha:aop env H op=some (p,H')):H'=H:=by
 cases op<;>simp only[chg,Bool.true_eq_false,reduceCtorEq]at h<;>simp only[aop]at ha<;>(repeat' split at ha)<;>simp only[Option.map_eq_some_iff,Option.some.injEq,Prod.mk.injEq,reduceCtorEq]at ha
 all_goals first
  |exact ha.2.symm
  |(obtain⟨_,_,_,rfl⟩:=ha;rfl)
theorem gOp_eq (op:AOp) (env:E) (H:List Blk):gOp op env H=match aop env.toL H op with|some (p,H')=>some (p,H',loOf op env.toL H)|none=>none:=by
 unfold gOp
 rw[aopG_eq,loG_eq]
 cases ha:aop env.toL H op with
 |none=>rfl
 |some x=>
  obtain⟨p,H'⟩:=x
  simp only[fP_eq,Zk]
  cases hc:chg op with
  |true=>simp only[fAt_eq]
  |false=>simp only[chg_no hc ha]
def fRes (r:Res3):Res3:=match r with
 |some (p,H,lo)=>fP 60 p λp=>fNat lo λlo=>some (p,H,lo)
 |none=>none
theorem fRes_eq (r:Res3):fRes r=r:=by
 unfold fRes
 split<;>simp only[fP_eq,Zk]
def gCall (call:Yh) (cut:Bool) (f:PV) (args:List PV) (H:List Blk):Res3:=match f with
 |.fn (.func n) first cap=>fL (fP 1) (first++args++cap) λa=>fRes (call cut (.fn n false) a H)
 |.yl k=>fL (fP 1) args λa=>fRes (call cut (.rd k) a H)
 |_=>none
def gStep (call:Yh) (cut:Bool) (op:AOp) (env:E) (H:List Blk):Res3:=
 match asCall op with
 |some (f,args)=>gCall call cut (evE f env) (args.map (evE · env)) H
 |none=>gOp op env H
theorem asCall_some {op:AOp} {f:Opd} {args:List Opd} (h:asCall op=some (f,args)):op=.call f args:=by
 cases op<;>simp[asCall]at h
 obtain⟨rfl,rfl⟩:=h;rfl
abbrev Sub (c1 c2:Yh):Prop:=∀ cut t a H x,c1 cut t a H=some x->c2 cut t a H=some x
theorem gStep_le {c1 c2:Yh} (hc:Sub c1 c2) {cut:Bool} {op:AOp} {env:E} {H:List Blk} {x:PV×List Blk×Nat} (h:gStep c1 cut op env H=some x):evStep c2 cut op env.toL H=some x:=by
 unfold gStep at h
 cases ha:asCall op with
 |some y=>
  obtain⟨f,args⟩:=y
  have e:=asCall_some ha
  subst e
  simp only[ha,gCall,fL_eq (fP_eq 1),fRes_eq,evE_eq]at h
  simp only[evStep]
  split at h
  ·rename_i e;rw[e];exact hc _ _ _ _ _ h
  ·rename_i e;rw[e];exact hc _ _ _ _ _ h
  ·cases h
 |none=>
  rw[ha]at h
  simp only[gOp_eq]at h
  cases op<;>first|exact h|(simp[asCall]at ha;done)
def wantE (g:Option (Nat×Bool)) (env:E):Option Bool:=match g with
 |none=>some true
 |some (d,b)=>match env.get d with
  |.sc (.bool t)=>some (t==b)
  |.tup []=>some false
  |_=>none
theorem wantE_eq (x:DI) (env:E):wantE x.ai.guard env=wantD x env.toL:=by
 unfold wantE wantD
 cases x.ai.guard with
 |none=>rfl
 |some y=>obtain⟨d,b⟩:=y;simp only[E.get_eq];rfl
abbrev ResE:=Option (E×List Blk×Nat)
def gOps (call:Yh):List AI->E->List Blk->Nat->ResE
 |[],env,H,lo=>some (env,H,lo)
 |i::rest,env,H,lo=>
  match wantE i.guard env with
  |some true=>match gStep call false i.op env H with
   |some (p,H',lo')=>gPut env i.dst p λenv'=>fNat (min lo lo') λlo=>gOps call rest env' H' lo
   |none=>none
  |some false=>gPut env i.dst (.tup []) λenv'=>gOps call rest env' H lo
  |none=>none
theorem gOps_le {c1 c2:Yh} (hc:Sub c1 c2):∀ (l:List AI) (env:E) (H:List Blk) (lo:Nat) (e':E) (H':List Blk) (lo':Nat),env.ok->gOps c1 l env H lo=some (e',H',lo')->e'.ok/\evOps c2 l env.toL H lo=some (e'.toL,H',lo')
 |[],env,H,lo,e',H',lo',hk,h=>by simp only[gOps,Option.some.injEq,Prod.mk.injEq]at h;obtain⟨rfl,rfl,rfl⟩:=h;exact⟨hk,rfl⟩
 |i::rest,env,H,lo,e',H',lo',hk,h=>by
  have ih:=λenv H lo=>gOps_le hc rest env H lo e' H' lo'
  simp only[gOps,gPut_eq,Zk]at h
  rw[show wantE i.guard env=wantD ⟨false,[],[],i⟩ env.toL from wantE_eq ⟨false,[],[],i⟩ env]at h
  unfold wantD at h
  simp only[evOps]
  cases hg:i.guard with
  |none=>
   simp only[hg]at h ⊢
   split at h
   ·rename_i p H1 lo1 hs
    rw[gStep_le hc hs]
    obtain⟨p1,p2⟩:=E.put_ok hk i.dst p
    simp only
    rw[<-p2]
    exact ih _ _ _ p1 h
   ·cases h
  |some y=>
   obtain⟨d,b⟩:=y
   simp only[hg]at h ⊢
   generalize (env.toL[d]?).getD PV.any=v at h ⊢
   have skip:gOps c1 rest (env.put i.dst (.tup [])) H lo=some (e',H',lo')->e'.ok/\evOps c2 rest (putE env.toL i.dst (.tup [])) H lo=some (e'.toL,H',lo'):=λh=>by
    obtain⟨p1,p2⟩:=E.put_ok hk i.dst (.tup [])
    rw[<-p2]
    exact ih _ _ _ p1 h
   cases v with
   |sc v=>cases v with
    |bool t=>
     by_cases e:t=b
     ·subst e
      simp only[beq_self_eq_true]at h
      simp only[if_true]
      split at h
      ·rename_i p H1 lo1 hs
       rw[gStep_le hc hs]
       obtain⟨p1,p2⟩:=E.put_ok hk i.dst p
       simp only
       rw[<-p2]
       exact ih _ _ _ p1 h
      ·cases h
     ·have e2:(t==b)=false:=by simpa using e
      simp only[e2]at h
      simp only[if_neg e]
      exact skip h
    |_=>cases h
   |tup l=>cases l with
    |nil=>exact skip h
    |cons _ _=>cases h
   |_=>cases h
def gDc (x:DI) (more:Bool) (F:List Blk) (r:Res3):Res3:=match r with
 |some (r,F',lo)=>if F.length<=lo/\F'.length=F.length then some (r,F,F.length)else if x.ord=true/\F.length<=F'.length/\(more=false\/F.length<=lo)then some (r,F',lo)else none
 |none=>none
def gDo (base:Nat) (x:DI) (more:Bool) (F:List Blk) (c:Nat) (r:Res3):Res3:=match r with
 |some (p,F',lo)=>if F'.length=F.length then (if F.length<=lo then some (p,F,F.length)else if x.ord=true/\lo<base+c then some (p,F',lo)else none)else if x.ord=true/\(more=false\/F.length<=lo)then some (p,F',lo)else none
 |none=>none
def gDp (F:List Blk) (r:Option (PV×List Blk)):Res3:=match r with
 |some (p,[])=>fP 3 p λp=>some (p,F,F.length)
 |_=>none
def asNew (op:AOp):Option Bool:=match op with
 |.alloc _=>some false
 |.mkMap=>some true
 |_=>none
def gD (call:Yh) (base:Nat) (x:DI) (more:Bool) (env:E) (F:List Blk) (c:Nat):Res3:=
 match asNew x.ai.op with
 |some false=>fNat (base+c) λb=>some (.bp b 0,F,F.length)
 |some true=>fNat (base+c) λb=>some (.mp b,F,F.length)
 |none=>match asCall x.ai.op with
  |some (f,args)=>match evE f env with
   |.fn (.func n) first cap=>fL (fP 1) (first++args.map (evE · env)++cap) λa=>gDc x more F (fRes (call (!x.ord) (.fn n false) a F))
   |_=>none
  |none=>match Ye x.ai.op with
   |true=>gDp F (aopG x.ai.op env [])
   |false=>gDo base x more F c (gOp x.ai.op env F)
theorem gD_le {c1 c2:Yh} (hc:Sub c1 c2) {base:Nat} {x:DI} {more:Bool} {env:E} {F:List Blk} {c:Nat} {y:PV×List Blk×Nat} (h:gD c1 base x more env F c=some y):evD c2 base x more env.toL F c=some y:=by
 unfold gD at h
 unfold evD
 cases hop:x.ai.op with
 |alloc z=>simp only[hop,asNew,Zk]at h;exact h
 |mkMap=>simp only[hop,asNew,Zk]at h;exact h
 |call f args=>
  simp only[hop,asNew,asCall,fL_eq (fP_eq 1),fRes_eq,gDc,evE_eq]at h
  simp only
  split at h
  ·rename_i e
   rw[e]
   simp only
   split at h
   ·rename_i e2;rw[hc _ _ _ _ _ e2];exact h
   ·cases h
  ·cases h
 |_=>
  simp only[hop,asNew,asCall,Ye,gOp_eq,aopG_eq,gDp,gDo,fP_eq]at h
  first
   |exact h
   |(simp only[Ye,if_true,Bool.false_eq_true,if_false];exact h)
   |(simp only[Ye,if_true,Bool.false_eq_true,if_false];generalize aop _ _ _=y at h ⊢;cases y<;>exact h)
def E.mask (e:E) (ts:List Nat):E:=⟨e.n,e.t,some ts⟩
theorem E.mask_toL {e:E} (h:e.ok) (ts:List Nat):(e.mask ts).toL=Yo ts e.toL:=by
 simp only[E.toL,E.mask,h.2];rfl
def rdLd (a:Opd) (env:E):Option Nat:=match evE a env with|.bp k _=>some k|_=>none
def rdG (op:AOp) (env:E) (b:Nat):Option Nat:=match op with
 |.load _ a=>rdLd a env
 |.alloc _=>some b
 |.mkMap=>some b
 |_=>none
def mkG (op:AOp) (env:E) (b:Nat) (F F':List Blk) (lo:Nat):Tch:=
 ⟨rdG op env b,if F.length<=lo/\F'.length=F.length then none else if isCallB op=false/\F'.length=F.length then some (some lo,F.length)else some (none,min lo F.length)⟩
theorem mkG_eq (op:AOp) (env:E) (b:Nat) (F F':List Blk) (lo:Nat):mkG op env b F F' lo=mkT op env.toL b F F' lo:=by
 unfold mkG mkT
 congr 1
 cases op<;>simp only[rdG,rdE,rdLd,evE_eq]
 all_goals rfl
def gDr (call:Yh) (base:Nat):List DI->E->List Blk->Nat->Nat->List (Option Tch)->Option (E×List Blk×Nat×List (Option Tch))
 |[],env,F,_,lo,ts=>some (env,F,lo,ts.reverse)
 |x::rest,env,F,c,lo,ts=>
  match wantE x.ai.guard (env.mask x.looks)with
  |some true=>match gD call base x (rest.any λy=>cntD y==1) (env.mask x.looks) F c with
   |some (p,F',lo')=>gPut env x.ai.dst p λenv'=>fNat (c+cntD x) λc'=>fNat (min lo lo') λlo=>gDr call base rest env' F' c' lo (some (mkG x.ai.op (env.mask x.looks) (base+c) F F' lo')::ts)
   |none=>none
  |some false=>gPut env x.ai.dst (.tup []) λenv'=>fNat (c+cntD x) λc=>gDr call base rest env' F c lo (none::ts)
  |none=>none
theorem gDr_le {c1 c2:Yh} (hc:Sub c1 c2) (base:Nat):∀ (l:List DI) (env:E) (F:List Blk) (c lo:Nat) (us:List (Option Tch)) (e':E) (H':List Blk) (lo':Nat) (ts:List (Option Tch)),env.ok->gDr c1 base l env F c lo us=some (e',H',lo',ts)->e'.ok/\evDr c2 base l env.toL F c lo us=some (e'.toL,H',lo',ts)
 |[],env,F,c,lo,us,e',H',lo',ts,hk,h=>by simp only[gDr,Option.some.injEq,Prod.mk.injEq]at h;obtain⟨rfl,rfl,rfl,rfl⟩:=h;exact⟨hk,rfl⟩
 |x::rest,env,F,c,lo,us,e',H',lo',ts,hk,h=>by
  have ih:=λenv F c lo us=>gDr_le hc base rest env F c lo us e' H' lo' ts
  simp only[gDr,gPut_eq,Zk,wantE_eq,mkG_eq,E.mask_toL hk]at h
  simp only[evDr]
  split at h
  ·rename_i hw
   rw[hw]
   simp only
   split at h
   ·rename_i p F1 lo1 hs
    have:=gD_le hc hs
    rw[E.mask_toL hk]at this
    rw[this]
    obtain⟨p1,p2⟩:=E.put_ok hk x.ai.dst p
    simp only
    rw[<-p2]
    exact ih _ _ _ _ _ p1 h
   ·cases h
  ·rename_i hw
   rw[hw]
   obtain⟨p1,p2⟩:=E.put_ok hk x.ai.dst (.tup [])
   simp only
   rw[<-p2]
   exact ih _ _ _ _ _ p1 h
  ·cases h
abbrev Res4:=Option (Ex×E×List Blk×Nat)
def gLoop (round:E->List Blk->Nat->Res4):Nat->E->List Blk->Nat->Res4
 |0,_,_,_=>none
 |n+1,env,H,lo=>match round env H lo with
  |some (.normal,env',H',lo')=>gLoop round n env' H' lo'
  |r=>r
abbrev Le4 (r1:E->List Blk->Nat->Res4) (r2:List PV->List Blk->Nat->Option (Ex×List PV×List Blk×Nat)):Prop:=∀ env H lo x e' H' lo',E.ok env->r1 env H lo=some (x,e',H',lo')->e'.ok/\r2 env.toL H lo=some (x,e'.toL,H',lo')
theorem gLoop_le {r1:E->List Blk->Nat->Res4} {r2:List PV->List Blk->Nat->Option (Ex×List PV×List Blk×Nat)} (hr:Le4 r1 r2):∀ n,Le4 (gLoop r1 n) (evLoop r2 n)
 |0=>λenv H lo x e' H' lo' hk h=>by cases h
 |n+1=>λenv H lo x e' H' lo' hk h=>by
  simp only[gLoop]at h
  simp only[evLoop]
  split at h
  ·rename_i e1 H1 lo1 h1
   obtain⟨k1,k2⟩:=hr _ _ _ _ _ _ _ hk h1
   rw[k2]
   exact gLoop_le hr n _ _ _ _ _ _ _ k1 h
  ·rename_i hne
   obtain⟨k1,k2⟩:=hr _ _ _ _ _ _ _ hk h
   rw[k2]
   cases x with
   |normal=>exact absurd h (hne _ _ _)
   |exit i=>exact⟨k1,rfl⟩
   |ret=>exact⟨k1,rfl⟩
def gNormal (x:ResE):Res4:=match x with
 |some x=>some (.normal,x)
 |none=>none
theorem gNormal_some {r:ResE} {x:Ex} {e:E} {H:List Blk} {lo:Nat} (h:gNormal r=some (x,e,H,lo)):x=.normal/\r=some (e,H,lo):=by
 cases r with
 |none=>cases h
 |some y=>simp only[gNormal,Option.some.injEq,Prod.mk.injEq]at h;obtain⟨rfl,rfl⟩:=h;exact⟨rfl,rfl⟩
def gDraw (call:Yh) (l:List DI) (tl:List AI) (env:E) (H:List Blk) (lo:Nat):Res4:=
 fS (H++Wg l) λF=>fNat H.length λbase=>match gDr call base l env F 0 lo []with
  |some (env',F',lo',ts)=>(match sepB l ts with
   |true=>gNormal (gOps call tl env' F' lo')
   |false=>none)
  |none=>none
def gExit (id:Nat) (r:Res4):Res4:=match r with
 |some (.exit i,env',H',lo')=>if i=id then some (.normal,env',H',lo')else some (.exit i,env',H',lo')
 |r=>r
def gBool (p:PV) (a b:Res4):Res4:=match p with
 |.sc (.bool true)=>a
 |.sc (.bool false)=>b
 |_=>none
def gThen (r:Res4) (k:E->List Blk->Nat->Res4):Res4:=match r with
 |some (.normal,env',H',lo')=>k env' H' lo'
 |r=>r
def gRange (call:Yh) (f:Opd) (ps:Array Nat) (ai bd:AC) (cA cB:Code) (env:E) (H:List Blk) (lo:Nat):Res4:=match evE f env with
 |.fn (.func n) first cap=>fNat H.length λh=>fL (fP 1) env.base λeL=>fS (H++[.loop eL ps ai bd cA cB .ready none]) λH1=>fL (fP 1) (first++[.yl h]++cap) λa=>match call false (.fn n true) a H1 with
  |some (_,H',lo')=>match H'[h]? with
   |some (.loop _ _ _ _ _ _ st pend)=>if st=.busy then none else
    match jumpEx pend,setLoop H' h .exhausted pend with
    |some x,some H2=>fS H2 λH2=>fNat (min lo (min lo' h)) λlo=>some (x,env,H2,lo)
    |_,_=>none
   |_=>none
  |none=>none
 |_=>none
def gCG (call:Yh) (fuel:Nat):AC->E->List Blk->Nat->Res4
 |.skip=>λenv H lo=>some (.normal,env,H,lo)
 |.ops l=>λenv H lo=>gNormal (gOps call l env H lo)
 |.draw l tl=>gDraw call l tl
 |.seq a b=>λenv H lo=>gThen (gCG call fuel a env H lo) (gCG call fuel b)
 |.cond c a b=>λenv H lo=>gBool (evE c env) (gCG call fuel a env H lo) (gCG call fuel b env H lo)
 |.block id c=>λenv H lo=>gExit id (gCG call fuel c env H lo)
 |.loop c=>gLoop (gCG call fuel c) fuel
 |.exit id=>λenv H lo=>some (.exit id,env,H,lo)
 |.ret=>λenv H lo=>some (.ret,env,H,lo)
 |.range f ps ai bd cA cB=>gRange call f ps ai bd cA cB
 |.bad=>λ_ _ _=>none
theorem gC_le {c1 c2:Yh} (hc:Sub c1 c2) (fuel:Nat):∀ c:AC,Le4 (gCG c1 fuel c) (evC c2 fuel c)
 |.skip=>λenv H lo x e' H' lo' hk h=>by simp only[gCG,Option.some.injEq,Prod.mk.injEq]at h;obtain⟨rfl,rfl,rfl,rfl⟩:=h;exact⟨hk,rfl⟩
 |.ops l=>λenv H lo x e' H' lo' hk h=>by
  simp only[gCG]at h
  obtain⟨e1,h2⟩:=gNormal_some h
  subst e1
  obtain⟨k1,k2⟩:=gOps_le hc l _ _ _ _ _ _ hk h2
  exact⟨k1,by simp only[evC,k2,Option.map_some]⟩
 |.draw l tl=>λenv H lo x e' H' lo' hk h=>by
  simp only[gCG,gDraw,fS_eq,Zk]at h
  split at h
  ·rename_i e1 F1 lo1 ts h1
   split at h
   case h_2=>cases h
   rename_i hsep
   obtain⟨e2,h2⟩:=gNormal_some h
   subst e2
   obtain⟨k1,k2⟩:=gDr_le hc _ l _ _ _ _ _ _ _ _ _ hk h1
   obtain⟨k3,k4⟩:=gOps_le hc tl _ _ _ _ _ _ k1 h2
   exact⟨k3,by simp only[evC,k2,k4,hsep,if_true,Option.map_some]⟩
  ·cases h
 |.seq a b=>λenv H lo x e' H' lo' hk h=>by
  simp only[gCG,gThen]at h
  simp only[evC]
  split at h
  ·rename_i e1 H1 lo1 h1
   obtain⟨k1,k2⟩:=gC_le hc fuel a _ _ _ _ _ _ _ hk h1
   rw[k2]
   exact gC_le hc fuel b _ _ _ _ _ _ _ k1 h
  ·rename_i hne
   obtain⟨k1,k2⟩:=gC_le hc fuel a _ _ _ _ _ _ _ hk h
   rw[k2]
   cases x with
   |normal=>exact absurd h (hne _ _ _)
   |exit i=>exact⟨k1,rfl⟩
   |ret=>exact⟨k1,rfl⟩
 |.cond c a b=>λenv H lo x e' H' lo' hk h=>by
  simp only[gCG,gBool,evE_eq]at h
  simp only[evC]
  split at h
  ·rename_i e;rw[e];exact gC_le hc fuel a _ _ _ _ _ _ _ hk h
  ·rename_i e;rw[e];exact gC_le hc fuel b _ _ _ _ _ _ _ hk h
  ·cases h
 |.block id c=>λenv H lo x e' H' lo' hk h=>by
  simp only[gCG,gExit]at h
  simp only[evC]
  split at h
  ·rename_i i e1 H1 lo1 h1
   obtain⟨k1,k2⟩:=gC_le hc fuel c _ _ _ _ _ _ _ hk h1
   rw[k2]
   simp only
   split at h
   ·rename_i hi
    simp only[Option.some.injEq,Prod.mk.injEq]at h
    obtain⟨rfl,rfl,rfl,rfl⟩:=h
    exact⟨k1,by rw[if_pos hi]⟩
   ·rename_i hi
    simp only[Option.some.injEq,Prod.mk.injEq]at h
    obtain⟨rfl,rfl,rfl,rfl⟩:=h
    exact⟨k1,by rw[if_neg hi]⟩
  ·rename_i hne
   obtain⟨k1,k2⟩:=gC_le hc fuel c _ _ _ _ _ _ _ hk h
   rw[k2]
   cases x with
   |normal=>exact⟨k1,rfl⟩
   |exit i=>exact absurd h (hne _ _ _ _)
   |ret=>exact⟨k1,rfl⟩
 |.loop c=>λenv H lo x e' H' lo' hk h=>by
  simp only[gCG]at h
  simp only[evC]
  exact gLoop_le (gC_le hc fuel c) fuel _ _ _ _ _ _ _ hk h
 |.exit id=>λenv H lo x e' H' lo' hk h=>by simp only[gCG,Option.some.injEq,Prod.mk.injEq]at h;obtain⟨rfl,rfl,rfl,rfl⟩:=h;exact⟨hk,rfl⟩
 |.ret=>λenv H lo x e' H' lo' hk h=>by simp only[gCG,Option.some.injEq,Prod.mk.injEq]at h;obtain⟨rfl,rfl,rfl,rfl⟩:=h;exact⟨hk,rfl⟩
 |.range f ps ai bd cA cB=>λenv H lo x e' H' lo' hk h=>by
  have eb:env.base=env.toL:=by simp only[E.toL,hk.2]
  simp only[gCG,gRange,fS_eq,Zk,fL_eq (fP_eq 1),evE_eq,eb]at h
  simp only[evC]
  split at h
  case h_2=>cases h
  rename_i n first cap e
  rw[e]
  simp only
  split at h
  case h_2=>cases h
  rename_i r1 H1 lo1 h1
  rw[hc _ _ _ _ _ h1]
  simp only
  split at h
  case h_2=>cases h
  rename_i st pend hk2
  rw[hk2]
  simp only
  split at h
  case isTrue=>cases h
  rename_i hst
  rw[if_neg hst]
  split at h
  case h_2=>cases h
  rename_i x1 H2 hj hs
  rw[hj,hs]
  simp only[Option.some.injEq,Prod.mk.injEq]at h
  obtain⟨rfl,rfl,rfl,rfl⟩:=h
  exact⟨hk,rfl⟩
 |.bad=>λenv H lo x e' H' lo' hk h=>by cases h
def resE (rs:List RP) (env:E) (H:List Blk):Option PV:=match rs with
 |[.t n]=>some (env.get n)
 |[.t n,.t m]=>some (.tup [env.get n,env.get m])
 |rs=>resP rs env.base H
theorem resE_eq {rs:List RP} {env:E} {H:List Blk} (hk:env.ok):resE rs env H=resP rs env.toL H:=by
 have eb:env.base=env.toL:=by simp only[E.toL,hk.2]
 unfold resE
 split
 ·simp[resP,RP.ev,E.get_eq]
 ·simp[resP,RP.ev,E.get_eq]
 ·rw[eb]
def gEnd (cut:Bool) (rs:List RP) (H:List Blk) (r:Res4):Res3:=match r with
 |some (x,env,H',lo)=>if x=.normal\/x=.ret then
   match resE rs env H' with
   |some r=>if H.length<=lo/\(cut=true\/ownRes H.length r=false)then some (r.strip H.length,H,H.length)else some (r,H',lo)
   |none=>none
  else none
 |none=>none
def gF (pre:FuncId->List PV->Option PV) (tab:FuncId->Option AF):Nat->Yh
 |0,_,_,_,_=>none
 |n+1,cut,t,args,H=>match t with
  |.rd k=>match H[k]? with
   |some (.loop env ps ai bd _ _ .ready none)=>
    if (ai.flat&&bd.flat&&args.length==ps.size)=true then
     match fL (fP 1) (Yn env ps.toList args) λe0=>match Nat.ble e0.length 65000 with
      |true=>ofL e0 0 .e λt=>gCG (memo pre (gF pre tab n)) n ai ⟨e0.length,t,none⟩ H H.length
      |false=>none with
     |some (.normal,env1,H1,lo1)=>if isReady H1 k=true then
       match setLoop H1 k .busy none with
       |some H2=>match fS H2 λH2=>fNat (min lo1 k) λlo=>gCG (memo pre (gF pre tab n)) n bd env1 H2 lo with
        |some (x,_,H3,lo2)=>match setLoop H3 k (if (Xx x).isNone then .ready else .done) (Xx x)with
         |some H4=>fS H4 λH4=>some (.sc (.bool (Xx x).isNone),H4,lo2)
         |none=>none
        |none=>none
       |none=>none
      else none
     |_=>none
    else none
   |_=>none
  |.fn f _=>match tab f with
   |none=>none
   |some af=>fNat (args.length+(af.ntmps-args.length)) λm=>match Nat.ble m 65000 with
    |true=>ofL args 0 .e λt=>fNat H.length λlo=>gEnd cut af.res H (gCG (memo pre (gF pre tab n)) n af.body ⟨m,t,none⟩ H lo)
    |false=>none
theorem memo_le {pre:FuncId->List PV->Option PV} {c1 c2:Yh} (hc:Sub c1 c2):Sub (memo pre c1) (memo pre c2):=by
 intro cut t a H x h
 cases t with
 |rd k=>exact hc _ _ _ _ _ h
 |fn f rg=>cases rg with
  |true=>exact hc _ _ _ _ _ h
  |false=>
   simp only[memo]at h ⊢
   cases hq:pre f a with
   |some q=>rw[hq]at h;exact h
   |none=>rw[hq]at h;exact hc _ _ _ _ _ h
theorem gF_le (pre:FuncId->List PV->Option PV) (tab:FuncId->Option AF):∀ n,Sub (gF pre tab n) (evF pre tab n)
 |0=>λcut t args H x h=>by cases h
 |n+1=>λcut t args H x h=>by
  have ih:=memo_le (pre:=pre) (gF_le pre tab n)
  cases t with
  |fn f rg=>
   simp only[gF,Zk,ofL_eq]at h
   simp only[evF]
   split at h
   case h_1=>cases h
   rename_i af haf
   rw[haf]
   simp only
   split at h
   case h_2=>cases h
   rename_i hb
   obtain⟨q1,q2⟩:=E.enter_ok (args:=args) (nt:=af.ntmps) (by simpa using hb)
   have h:gEnd cut af.res H (gCG (memo pre (gF pre tab n)) n af.body (E.enter args af.ntmps) H H.length)=some x:=h
   simp only[gEnd]at h
   split at h
   case h_2=>cases h
   rename_i x1 e1 H1 lo1 h1
   obtain⟨k1,k2⟩:=gC_le ih n af.body _ _ _ _ _ _ _ q1 h1
   rw[q2]at k2
   rw[k2]
   simp only[resE_eq k1]at h
   exact h
  |rd k=>
   simp only[gF,fS_eq,Zk,fL_eq (fP_eq 1),ofL_eq]at h
   simp only[evF]
   split at h
   case h_2=>cases h
   rename_i env ps ai bd cA cB hk
   rw[hk]
   simp only
   split at h
   case isFalse=>cases h
   rename_i hcond
   rw[if_pos hcond]
   split at h
   case h_2=>cases h
   rename_i env1 H1 lo1 h1
   split at h1
   case h_2=>cases h1
   rename_i hb
   obtain⟨q1,q2⟩:=E.enter_ok (args:=Yn env ps.toList args) (nt:=0) (by simpa using hb)
   have h1:gCG (memo pre (gF pre tab n)) n ai (E.enter (Yn env ps.toList args) 0) H H.length=some (.normal,env1,H1,lo1):=by
    have e:E.enter (Yn env ps.toList args) 0=⟨(Yn env ps.toList args).length,ofLT (Yn env ps.toList args) 0 .e,none⟩:=by simp[E.enter]
    rw[e];exact h1
   obtain⟨k1,k2⟩:=gC_le ih n ai _ _ _ _ _ _ _ q1 h1
   rw[q2]at k2
   simp only[Nat.zero_sub,List.replicate_zero,List.append_nil]at k2
   rw[k2]
   simp only
   split at h
   case isFalse=>cases h
   rename_i hrd
   rw[if_pos hrd]
   split at h
   case h_2=>cases h
   rename_i H2 hs2
   rw[hs2]
   simp only
   split at h
   case h_2=>cases h
   rename_i x2 e2 H3 lo2 h2
   obtain⟨k3,k4⟩:=gC_le ih n bd _ _ _ _ _ _ _ k1 h2
   rw[k4]
   simp only
   split at h
   case h_2=>cases h
   rename_i H4 hs4
   rw[hs4]
   exact h
end Go.PE
namespace Go.PE
open Go.RowKit
def Ym:Nat->PV->Bool
 |0,_=>false
 |n+1,p=>match p with
  |.any=>true
  |.sc _=>true
  |.agg cs=>cs.all (Ym n)
  |.tup cs=>cs.all (Ym n)
  |.sl _ r _ es=>(match r with|.own _=>false|_=>true)&&es.all λe=>e.all (Ym n)
  |.ip cs=>cs.all (Ym n)
  |.fn _ p q=>p.all (Ym n)&&q.all (Ym n)
  |_=>false
theorem RV.closed {g g2:Gh} (hC:∀ b o v,g.C b o=some v->g2.C b o=some v):∀ (n:Nat) {p:PV} {v:Value},Ym n p=true->RV g p v->RV g2 p v
 |0,p,v,h,_=>by cases h
 |n+1,p,v,h,hr=>by
  have ih:=λ{p:PV} {v:Value}=>RV.closed hC n (p:=p) (v:=v)
  have lst:∀ {cs:List PV},cs.all (Ym n)=true->∀ (i:Nat) (p:PV),cs[i]?=some p->Ym n p=true:=λhc i p hp=>List.all_eq_true.1 hc p (List.mem_of_getElem? hp)
  cases hr with
  |any v=>exact .any v
  |sc hp=>exact .sc hp
  |agg hn hk=>exact .agg hn λi p v hp hv=>ih (lst h i p hp) (hk i p v hp hv)
  |tup hn hk=>exact .tup hn λi p v hp hv=>ih (lst h i p hp) (hk i p v hp hv)
  |nilsl r s=>exact .nilsl r s
  |em r s A he=>exact .em r s A he
  |@sl r es b o cap s vf hc hm hs hC0 hR hr=>
   simp only[Ym,Bool.and_eq_true]at h
   have hel:∀ (i j:Nat) (e:List PV) (p:PV),es[i]?=some e->e[j]?=some p->Ym n p=true:=λi j e p he hp=>
    List.all_eq_true.1 (List.all_eq_true.1 h.2 e (List.mem_of_getElem? he)) p (List.mem_of_getElem? hp)
   refine .sl vf hc hm hs (λi j e p he hp=>hC _ _ _ (hC0 i j e p he hp)) (λi j e p he hp=>ih (hel i j e p he hp) (hR i j e p he hp)) ?_
   cases r with
   |no=>trivial
   |full=>exact hr
   |own j=>cases h.1
  |ip vf hC0 hR=>exact .ip vf (λj p hp=>hC _ _ _ (hC0 j p hp)) λj p hp=>ih (lst h j p hp) (hR j p hp)
  |bp _=>cases h
  |fn hn hm hk hk2=>
   simp only[Ym,Bool.and_eq_true]at h
   exact .fn hn hm (λi p v hp hv=>ih (lst h.1 i p hp) (hk i p v hp hv)) (λi p v hp hv=>ih (lst h.2 i p hp) (hk2 i p v hp hv))
  |mp _=>cases h
  |bs _ _ _ _ _=>cases h
  |yl _=>cases h
theorem frame_call {P:Program} {f:FuncId} {args:List PV} {r:PV} (ha:args.all (Ym 60)=true) (hr:Ym 60 r=true) (h:ACall P f args [] (λr' H'=>r'=r/\H'=[])) (H:List Blk):
  ACall P f args H (λr' H'=>r'=r/\H'=H):=by
 refine⟨h.1,λg w vs hI hargs=>?_⟩
 let g0:Gh:=⟨g.C,λ_ _=>Option.none,λ_=>Option.none,λ_=>Option.none⟩
 have hI0:Inv g0 [] w:=⟨hI.C,λk x h=>by simp at h,λ_ _ h=>(nomatch h),λ_ _ h=>(nomatch h),λ_ _=>rfl,λ_ _ _=>rfl,λ_ _ h=>(nomatch h)⟩
 have hL0:LR g0 args vs:=⟨hargs.1,λi p v hp hv=>RV.closed (g:=g) (g2:=g0) (λ_ _ _ h=>h) 60 (List.all_eq_true.1 ha p (List.mem_of_getElem? hp)) (hargs.2 i p v hp hv)⟩
 refine(h.2 g0 w vs hI0 hL0).mono ?_
 rintro e w' ⟨u,r',H2,g',rfl,⟨rfl,rfl⟩,hS,_,hI',hru⟩
 let g2:Gh:=⟨g'.C,g.T,g.B,g.O⟩
 have hle:g.le g2:=⟨λb o v h=>hS.le.C b o v h,λ_ _ _ h=>h,λ_ _ h=>h,λ_ _ h=>h⟩
 refine⟨u,r',H,g2,rfl,⟨rfl,rfl⟩,⟨hle,λ_ _=>rfl,hS.os,hS.tape,hS.output,hS.size,λb hb _=>hS.block b hb rfl,λb k h=>.inl h,λb o _ hb=>hS.C b o rfl hb⟩,Nat.le_refl _,
  ⟨hI'.C,λk x hx=>?_,hI.own,λb k h=>Nat.lt_of_lt_of_le (hI.lt b k h) hS.size,hI.domB,hI.domT,hI.domO⟩,RV.closed (g:=g') (g2:=g2) (λ_ _ _ h=>h) 60 hr hru⟩
 exact(hI.blk k x hx).keep hle rfl (λ_=>rfl) (λb hb=>⟨hS.block b (hI.lt b k hb) rfl,λq=>hS.C b q rfl (hI.lt b k hb)⟩) hI.own
def eqLG {α:Type} (f:α->α->Bool):List α->List α->Bool
 |[],[]=>true
 |x::l,y::m=>match f x y with
  |true=>eqLG f l m
  |false=>false
 |_,_=>false
theorem Vw {α:Type} {f:α->α->Bool} (hf:∀ x y,f x y=true->x=y):∀ {l m:List α},eqLG f l m=true->l=m
 |[],[],_=>rfl
 |x::l,y::m,h=>by
  simp only[eqLG]at h
  split at h
  ·rename_i h1;rw[hf x y h1,Vw hf h]
  ·cases h
 |[],_::_,h=>by cases h
 |_::_,[],h=>by cases h
def eqInt (a b:Int):Bool:=match a,b with
 |.ofNat a,.ofNat b=>Nat.beq a b
 |.negSucc a,.negSucc b=>Nat.beq a b
 |_,_=>false
theorem eqInt_sound {a b:Int} (h:eqInt a b=true):a=b:=by
 cases a<;>cases b<;>simp only[eqInt]at h
 ·rw[Nat.eq_of_beq_eq_true h]
 ·cases h
 ·cases h
 ·rw[Nat.eq_of_beq_eq_true h]
def eqVal (a b:Value):Bool:=match a,b with
 |.int k a,.int k' b=>(match decide (k=k')with|true=>eqInt a b|false=>false)
 |.bool a,.bool b=>a==b
 |.string a,.string b=>a.data.toList==b.data.toList
 |.nilFunc,.nilFunc=>true
 |.nilIface,.nilIface=>true
 |.pointer none,.pointer none=>true
 |.map none,.map none=>true
 |_,_=>false
theorem eqVal_sound {a b:Value} (h:eqVal a b=true):a=b:=by
 unfold eqVal at h
 split at h
 ·rename_i k a k' b
  split at h
  ·rename_i hk
   have hk:k=k':=by simpa using hk
   rw[hk,eqInt_sound h]
  ·cases h
 ·simp at h;rw[h]
 ·rename_i a b
  obtain⟨⟨a⟩⟩:=a
  obtain⟨⟨b⟩⟩:=b
  have:a=b:=by simpa using h
  rw[this]
 all_goals first|rfl|cases h
def eqRt (a b:Right):Bool:=match a,b with
 |.no,.no=>true
 |.full,.full=>true
 |.own a,.own b=>Nat.beq a b
 |_,_=>false
def eqP:Nat->PV->PV->Bool
 |0,_,_=>false
 |n+1,p,q=>match p with
  |.sc a=>(match q with|.sc b=>eqVal a b|_=>false)
  |.agg a=>(match q with|.agg b=>eqLG (eqP n) a b|_=>false)
  |.tup a=>(match q with|.tup b=>eqLG (eqP n) a b|_=>false)
  |.sl nl r s es=>(match q with
   |.sl nl' r' s' es'=>(match (nl==nl')&&eqRt r r'&&Nat.beq s s' with|true=>eqLG (eqLG (eqP n)) es es'|false=>false)
   |_=>false)
  |_=>false
theorem eqP_sound:∀ (n:Nat) {p q:PV},eqP n p q=true->p=q
 |0,p,q,h=>by cases h
 |n+1,p,q,h=>by
  have ih:=λx y (h:eqP n x y=true)=>eqP_sound n h
  cases p<;>cases q<;>simp only[eqP]at h<;>try (cases h;done)
  ·rw[eqVal_sound h]
  ·rw[Vw ih h]
  ·rw[Vw ih h]
  ·rename_i nl r s es nl' r' s' es'
   split at h
   ·rename_i h1
    simp only[Bool.and_eq_true,beq_iff_eq]at h1
    obtain⟨⟨rfl,hr⟩,hs⟩:=h1
    have hr:r=r':=by
     cases r<;>cases r'<;>simp only[eqRt]at hr
     ·rfl
     ·cases hr
     ·cases hr
     ·cases hr
     ·rfl
     ·cases hr
     ·cases hr
     ·cases hr
     ·rw[Nat.eq_of_beq_eq_true hr]
    rw[hr,Nat.eq_of_beq_eq_true hs,Vw (λx y h=>Vw ih h) h]
   ·cases h
inductive LT where
 |e
 |n (k:Nat) (v:AF) (l r:LT)
def LT.look:LT->FuncId->Option AF
 |.e,_=>none
 |.n k v l r,f=>match Nat.beq f k with
  |true=>some v
  |false=>match Nat.ble f k with
   |true=>l.look f
   |false=>r.look f
structure Fact where
 f:Nat
 args:List PV
 r:PV
def preL:List Fact->FuncId->List PV->Option PV
 |[],_,_=>none
 |x::l,f,args=>match Nat.beq x.f f with
  |true=>(match eqLG (eqP 60) x.args args with|true=>some x.r|false=>preL l f args)
  |false=>preL l f args
def FactOk (P:Program) (x:Fact):Prop:=∀ H,XCall P x.f x.args H (λr' H'=>r'=x.r/\H'=H)
theorem preL_ok {P:Program}:∀ {l:List Fact},(∀ x∈l,FactOk P x)->PreOk P (preL l)
 |[],_=>λf args r h=>by cases h
 |x::l,hl=>λf args r h H=>by
  have ih:=preL_ok (P:=P) (l:=l) (λy hy=>hl y (List.mem_cons_of_mem _ hy))
  simp only[preL]at h
  split at h
  ·rename_i h1
   split at h
   ·rename_i h2
    have e1:=Nat.eq_of_beq_eq_true h1
    have e2:=Vw (λ_ _ h=>eqP_sound 60 h) h2
    cases h
    subst e2
    have:=hl x (List.mem_cons_self ..) H
    rw[e1]at this
    exact this
   ·exact ih f args r h H
  ·exact ih f args r h H
theorem fact_of_run {P:Program} {pre:FuncId->List PV->Option PV} {tab:FuncId->Option AF} (hmix:P.follows .mixedOrders=true) (hp:PreOk P pre) (ht:TabOk P tab) (n:Nat) {f:Nat} {args:List PV} {r:PV}
  (ha:args.all (Ym 60)=true) (hr:Ym 60 r=true) {cut:Bool} {lo:Nat} (h:gF pre tab n cut (.fn f true) args []=some (r,[],lo)):FactOk P ⟨f,args,r⟩:=λH=>by
 obtain⟨h1,_⟩:=evF_sound hmix hp ht n cut (.fn f true) args [] _ _ _ (hOk0 P) (gF_le pre tab n _ _ _ _ _ h)
 exact .inl (frame_call ha hr h1 H)
def add64 (args:List PV):Option PV:=match args with
 |[.sc (.int .u64 (.ofNat x)),.sc (.int .u64 (.ofNat y)),.sc (.int .u64 (.ofNat c))]=>(match Nat.ble c 1 with
  |true=>some (.tup [.sc (.int .u64 (.ofNat (Nat.mod (Nat.add (Nat.add x y) c) 18446744073709551616))),.sc (.int .u64 (.ofNat (Nat.div (Nat.add (Nat.add x y) c) 18446744073709551616)))])
  |false=>none)
 |_=>none
def preA (n:Nat) (pre:FuncId->List PV->Option PV):FuncId->List PV->Option PV:=λf args=>match Nat.beq f n with
 |true=>add64 args
 |false=>pre f args
theorem preA_ok {P:Program} {n:Nat} {pre:FuncId->List PV->Option PV} (hp:PreOk P pre)
  (hA:∀ (x y c:Nat),c<=1->∀ w,(callFunc n #[.int .u64 x,.int .u64 y,.int .u64 c]).run P w=.ok (.value (.tuple #[.int .u64 (((x+y+c)%18446744073709551616:Nat):Int),.int .u64 (((x+y+c) / 18446744073709551616:Nat):Int)])) w):PreOk P (preA n pre):=by
 intro f args r h H
 unfold preA at h
 split at h
 ·rename_i hf
  have hf:f=n:=Nat.eq_of_beq_eq_true hf
  subst hf
  unfold add64 at h
  split at h
  ·rename_i x y c
   split at h
   ·rename_i hc
    have hc:c<=1:=Nat.le_of_ble_eq_true hc
    cases h
    refine .inr λg w vs hL=>?_
    have e:vs=#[.int .u64 x,.int .u64 y,.int .u64 c]:=by
     have hn:vs.size=3:=by rw[<-hL.1];rfl
     apply Array.ext
     ·simpa using hn
     ·intro i h1 h2
      have hi:i<3:=by omega
      match i,hi with
      |0,_=>exact(Yq (hL.2 0 _ _ rfl (Array.getElem?_eq_getElem h1))).1
      |1,_=>exact(Yq (hL.2 1 _ _ rfl (Array.getElem?_eq_getElem h1))).1
      |2,_=>exact(Yq (hL.2 2 _ _ rfl (Array.getElem?_eq_getElem h1))).1
    rw[e]
    refine⟨_,_,hA x y c hc w,⟨rfl,rfl⟩,.tup rfl λi p v hp hv=>?_⟩
    match i,hp,hv with
    |0,hp,hv=>simp at hp hv;subst hp;subst hv;exact .sc rfl
    |1,hp,hv=>simp at hp hv;subst hp;subst hv;exact .sc rfl
    |i+2,hp,hv=>simp at hp
   ·cases h
  ·cases h
 ·exact hp f args r h H
end Go.PE
