/- A part of the proof. -/
import Derived.Test.YtibndgdocbbbeaaGreatPE6
set_option linter.all false
namespace Go.PE
open Go.RowKit
theorem eqCells_vals {g:Gh}:∀ {ks:List Knd} {a b:List PV} {r:Bool},eqCells ks a b=some r->∀ {xs ys:List Value},LR g a xs.toArray->LR g b ys.toArray->Xt ks xs ys=some r
 |[],[],[],r,h,xs,ys,hx,hy=>by
  have h1:xs=[]:=List.eq_nil_of_length_eq_zero (by simpa using hx.1.symm)
  have h2:ys=[]:=List.eq_nil_of_length_eq_zero (by simpa using hy.1.symm)
  subst h1;subst h2;exact h
 |k::ks,.sc u::a,.sc v::b,r,h,xs,ys,hx,hy=>by
  match xs,ys,hx,hy with
  |[],_,hx,_=>simp[LR]at hx
  |_::_,[],_,hy=>simp[LR]at hy
  |x::xs,y::ys,hx,hy=>
   have e1:u=x:=by have:=hx.2 0 (.sc u) x rfl rfl;cases this;rfl
   have e2:v=y:=by have:=hy.2 0 (.sc v) y rfl rfl;cases this;rfl
   subst e1;subst e2
   simp only[eqCells]at h
   cases h1:eqK k u v with
   |none=>simp[h1]at h
   |some p=>
    cases h2:eqCells ks a b with
    |none=>simp[h1,h2]at h
    |some q=>
     simp[h1,h2]at h
     have ih:=eqCells_vals (g:=g) h2 (xs:=xs) (ys:=ys) ⟨by simpa using hx.1,λi p v hp hv=>hx.2 (i+1) p v (by simpa using hp) (by simpa using hv)⟩ ⟨by simpa using hy.1,λi p v hp hv=>hy.2 (i+1) p v (by simpa using hp) (by simpa using hv)⟩
     simp[Xt,h1,ih,h]
theorem eqVals_len:∀ {ks:List Knd} {a b:List Value} {r:Bool},Xt ks a b=some r->a.length=ks.length/\b.length=ks.length
 |[],[],[],_,_=>⟨rfl,rfl⟩
 |k::ks,x::a,y::b,r,h=>by
  simp only[Xt]at h
  split at h
  ·rename_i _ _ _ h2;simp[eqVals_len h2]
  ·cases h
theorem eqVals_split:∀ (ks ls:List Knd) (a b:List Value) (r:Bool),Xt (ks++ls) a b=some r->∃ p q,Xt ks (a.take ks.length) (b.take ks.length)=some p/\Xt ls (a.drop ks.length) (b.drop ks.length)=some q/\r=(p&&q)
 |[],ls,a,b,r,h=>⟨true,r,rfl,h,by simp⟩
 |k::ks,ls,[],_,r,h=>by simp[Xt]at h
 |k::ks,ls,_::_,[],r,h=>by simp[Xt]at h
 |k::ks,ls,x::a,y::b,r,h=>by
  simp only[List.cons_append,Xt]at h
  cases h1:eqK k x y with
  |none=>simp[h1]at h
  |some p=>
   cases h2:Xt (ks++ls) a b with
   |none=>simp[h1,h2]at h
   |some q=>
    simp[h1,h2]at h
    obtain⟨u,v,h3,h4,h5⟩:=eqVals_split ks ls a b q h2
    exact⟨p&&u,v,by simp[Xt,h1,h3],h4,by rw[<-h,h5,Bool.and_assoc]⟩
def Uw (P:Program) (rec:TypeId->Option (List Knd)):List Field->Nat->Option (List Knd)
 |[],_=>some []
 |f::fs,n=>
  if f.name= "_"\/f.offset≠n then none else
  match rec f.type,P.info? f.type with
  |some ks,some i=>if i.size=ks.length then (Uw P rec fs (n+ks.length)).map (ks++·)else none
  |_,_=>none
def Yc (P:Program):Nat->TypeId->Option (List Knd)
 |0,_=>none
 |d+1,t=>match P.underlying t with
  |some (.int _)=>some [.i]
  |some .string=>some [.s]
  |some .bool=>some [.b]
  |some (.struct fs)=>if P.stoodInHeld t then none else Uw P (Yc P d) fs.toList 0
  |_=>none
def Flat (P:Program) (t:TypeId) (v:Value) (l:List Value):Prop:=
 match P.underlying t with
 |some (.struct _)=>v=.agg l.toArray
 |_=>l=[v]
theorem part_flat {P:Program} {d:Nat} {t:TypeId} {ks:List Knd} {i:TypeInfo} (h:Yc P d t=some ks) (hi:P.info? t=some i) (hn:i.size=ks.length) {xs:Array Value} {off:Nat} (ho:off+ks.length<=xs.size) (w:World):
  ∃ v,(part t xs off).run P w=.ok v w/\Flat P t v ((xs.toList.drop off).take ks.length):=by
 cases d with
 |zero=>cases h
 |succ d=>
  unfold Yc at h
  have one:∀ dd:TypeDesc,P.underlying t=some dd->(dd=.string\/dd=.bool\/∃ k,dd=.int k)->ks.length=1->∃ v,(part t xs off).run P w=.ok v w/\Flat P t v ((xs.toList.drop off).take ks.length):=λdd hd hk h1=>by
   have hlt:off<xs.size:=by omega
   refine⟨xs[off],?_,?_⟩
   ·have hag:(isAgg t).run P w=.ok false w:=by
     unfold isAgg
     rw[Sem.run_bind,run_underlying hd]
     rcases hk with rfl|rfl|⟨k,rfl⟩<;>simp
    simp[part,hag,hlt]
   ·unfold Flat
    rw[hd]
    have e:(xs.toList.drop off).take ks.length=[xs[off]]:=by
     rw[h1,List.drop_eq_getElem_cons (by simpa using hlt)]
     simp
    rcases hk with rfl|rfl|⟨k,rfl⟩<;>exact e
  split at h
  ·rename_i k hu;cases h;exact one _ hu (.inr (.inr ⟨_,rfl⟩)) rfl
  ·rename_i hu;cases h;exact one _ hu (.inl rfl) rfl
  ·rename_i hu;cases h;exact one _ hu (.inr (.inl rfl)) rfl
  ·rename_i fs hu
   refine⟨.agg (xs.extract off (off+ks.length)),?_,?_⟩
   ·have hag:(isAgg t).run P w=.ok true w:=by
     unfold isAgg
     rw[Sem.run_bind,run_underlying hu];simp
    simp[part,hag,Wm hi,hn]
   ·unfold Flat
    rw[hu]
    congr 1
    apply Array.ext'
    simp[List.take_drop]
  ·cases h
theorem equal_fields {P:Program} {d D:Nat} (ih:∀ (t:TypeId) (ks:List Knd),Yc P d t=some ks->∀ (x y:Value) (a b:List Value) (r:Bool),Flat P t x a->Flat P t y b->Xt ks a b=some r->∀ w,(Op.equalIn D t x y).run P w=.ok r w)
  (xs ys:Array Value) (w:World):∀ (fs:List Field) (n:Nat) (ks:List Knd),Uw P (Yc P d) fs n=some ks->n<=xs.size->n<=ys.size->∀ r,Xt ks (xs.toList.drop n) (ys.toList.drop n)=some r->
  (forIn fs ((none:Option Bool),()) λ(f:Field) (__s:Option Bool×Unit)=>
   if f.name≠ "_" then do
    let __do_lift <-part f.type xs f.offset
    let __do_lift_1 <-part f.type ys f.offset
    let __do_lift <-Op.equalIn D f.type __do_lift __do_lift_1
    if (!__do_lift)=true then pure (ForInStep.done (some false,()))
     else pure (ForInStep.yield (none,()))
   else pure (ForInStep.yield (none,())):Sem (Option Bool×Unit)).run P w=.ok (if r then (none,())else (some false,())) w
 |[],n,ks,h,hnx,hny,r,he=>by
  simp only[Uw,Option.some.injEq]at h
  subst h
  have:r=true:=by
   revert he
   cases xs.toList.drop n<;>cases ys.toList.drop n<;>simp[Xt]
  subst this
  simp
 |f::fs,n,ks,h,hnx,hny,r,he=>by
  simp only[Uw]at h
  split at h
  case isTrue=>cases h
  rename_i hc
  simp only[not_or,Decidable.not_not]at hc
  obtain⟨hname,hoff⟩:=hc
  split at h
  case h_2=>cases h
  rename_i ks1 i hk1 hi
  split at h
  case isFalse=>cases h
  rename_i hsz
  simp only[Option.map_eq_some_iff]at h
  obtain⟨ks2,h2,rfl⟩:=h
  obtain⟨p,q,h3,h4,rfl⟩:=eqVals_split ks1 ks2 _ _ r he
  have hl:=eqVals_len he
  simp at hl
  have hx:f.offset+ks1.length<=xs.size:=by omega
  have hy:f.offset+ks1.length<=ys.size:=by omega
  obtain⟨u,hu1,hu2⟩:=part_flat hk1 hi hsz hx w
  obtain⟨v,hv1,hv2⟩:=part_flat hk1 hi hsz hy w
  have heq:=ih f.type ks1 hk1 u v _ _ p hu2 hv2 (by rw[hoff];exact h3) w
  rw[List.forIn_cons]
  have ih2:=equal_fields ih xs ys w fs (n+ks1.length) ks2 h2 (by omega) (by omega) q (by rw[List.drop_drop]at h4;rw[List.drop_drop]at h4;exact h4)
  simp only[if_pos hname,Sem.run_bind,hu1,hv1,heq,Result.andThen_ok]
  cases p with
  |false=>simp
  |true=>
   simp only[Bool.not_true,Bool.false_eq_true,if_false,Sem.run_pure,Result.andThen_ok,Bool.true_and]
   exact ih2
theorem Vj {P:Program}:∀ (d D:Nat),d<=D->∀ (t:TypeId) (ks:List Knd),Yc P d t=some ks->∀ (x y:Value) (a b:List Value) (r:Bool),Flat P t x a->Flat P t y b->Xt ks a b=some r->∀ w,(Op.equalIn D t x y).run P w=.ok r w
 |0,D,_,t,n,h,_,_,_,_,_,_,_,_,_=>by cases h
 |d+1,0,hd,_,_,_,_,_,_,_,_,_,_,_,_=>by omega
 |d+1,D+1,hd,t,ks,h,x,y,a,b,r,hx,hy,he,w=>by
  unfold Yc at h
  unfold Flat at hx hy
  split at h
  ·rename_i k hu
   cases h
   rw[hu]at hx hy
   simp only at hx hy
   subst hx;subst hy
   unfold Op.equalIn
   rw[Sem.run_bind,run_underlying hu]
   cases x<;>cases y<;>simp[Xt,eqK]at he
   rename_i k1 n1 k2 n2
   by_cases hk:k1=k2
   ·simp[hk]at he ⊢;exact he
   ·simp[hk]at he
  ·rename_i hu
   cases h
   rw[hu]at hx hy
   simp only at hx hy
   subst hx;subst hy
   unfold Op.equalIn
   rw[Sem.run_bind,run_underlying hu]
   cases x<;>cases y<;>simp[Xt,eqK]at he
   simp;exact he
  ·rename_i hu
   cases h
   rw[hu]at hx hy
   simp only at hx hy
   subst hx;subst hy
   unfold Op.equalIn
   rw[Sem.run_bind,run_underlying hu]
   cases x<;>cases y<;>simp[Xt,eqK]at he
   simp;exact he
  ·rename_i fs hu
   rw[hu]at hx hy
   simp only at hx hy
   subst hx;subst hy
   split at h
   case isTrue=>cases h
   rename_i hst
   have key:=equal_fields (Vj d D (by omega)) a.toArray b.toArray w fs.toList 0 ks h (Nat.zero_le _) (Nat.zero_le _) r (by simpa using he)
   unfold Op.equalIn
   rw[Sem.run_bind,run_underlying hu]
   simp only[Result.andThen_ok,Sem.run_bind,run_program,if_neg hst]
   rw[<-Array.forIn_toList,key]
   cases r<;>simp
  ·cases h
theorem equal_array {P:Program} {t e:TypeId} {n:Nat} {k:IntKind} (ht:P.underlying t=some (.array n e)) (he:P.underlying e=some (.int k)) {i:TypeInfo} (hi:P.info? e=some i) (h1:i.size=1) {D:Nat} (xs ys:Array Value) (r:Bool)
  (hr:Xt (List.replicate n .i) xs.toList ys.toList=some r) (w:World):(Op.equalIn (D+2) t (.agg xs) (.agg ys)).run P w=.ok r w:=by
 have hpl:Yc P 1 e=some [.i]:=by simp[Yc,he]
 have hl:=eqVals_len hr
 simp at hl
 have key:∀ (m s:Nat) (r:Bool),s+m=n->Xt (List.replicate m .i) (xs.toList.drop s) (ys.toList.drop s)=some r->
  (forIn (List.range' s m) ((none:Option Bool),()) λ(j:Nat) (__s:Option Bool×Unit)=>do
    let __do_lift <-part e xs (j*1)
    let __do_lift_1 <-part e ys (j*1)
    let __do_lift <-Op.equalIn (D+1) e __do_lift __do_lift_1
    if (!__do_lift)=true then pure (ForInStep.done (some false,()))
     else pure (ForInStep.yield (none,())):Sem (Option Bool×Unit)).run P w=.ok (if r then (none,())else (some false,())) w:=by
  intro m
  induction m with
  |zero=>
   intro s r hs h
   have:r=true:=by
    revert h
    cases xs.toList.drop s<;>cases ys.toList.drop s<;>simp[Xt]
   subst this
   simp
  |succ m ih=>
   intro s r hs h
   rw[List.replicate_succ]at h
   obtain⟨p,q,h3,h4,rfl⟩:=eqVals_split [.i] (List.replicate m .i) _ _ r h
   simp only[List.length_singleton,List.drop_drop]at h3 h4
   obtain⟨u,hu1,hu2⟩:=part_flat hpl hi (by simpa using h1) (xs:=xs) (off:=s) (by simp;omega) w
   obtain⟨v,hv1,hv2⟩:=part_flat hpl hi (by simpa using h1) (xs:=ys) (off:=s) (by simp;omega) w
   have heq:=Vj (P:=P) 1 (D+1) (by omega) e [.i] hpl u v _ _ p hu2 hv2 (by simpa using h3) w
   rw[List.range'_succ,List.forIn_cons]
   have ih2:=ih (s+1) q (by omega) h4
   simp only[Nat.mul_one]at ih2 ⊢
   simp only[Sem.run_bind,hu1,hv1,heq,Result.andThen_ok]
   cases p with
   |false=>simp
   |true=>
    simp only[Bool.not_true,Bool.false_eq_true,if_false,Sem.run_pure,Result.andThen_ok,Bool.true_and]
    exact ih2
 have k0:=key n 0 r (by omega) (by simpa using hr)
 unfold Op.equalIn
 rw[Sem.run_bind,run_underlying ht]
 simp only[Result.andThen_ok,Sem.run_bind,Wm hi,h1]
 rw[Std.Legacy.Range.forIn_eq_forIn_range']
 simp only[Std.Legacy.Range.size,Nat.sub_zero,Nat.add_sub_cancel,Nat.div_one]
 rw[k0]
 cases r<;>simp
end Go.PE
