/- A part of the proof. -/
import Derived.Test.YtibndgdocbbbeaaGreatPE11
import Derived.Maps.RangeRun
set_option linter.all false
namespace Go.PE
open Go.RowKit
section
variable {P:Program} {g:Gh} {H:List Blk} {w:World}
theorem plain_sort {d:Nat} {t:TypeId} {ks:List Knd} (h:Yc P d t=some ks) {ag:Option Nat} (ha:agOf P t=some ag):
  (ag.isSome=true/\∃ fs,P.underlying t=some (.struct fs))\/(ag.isSome=false/\((∃ k,P.underlying t=some (.int k)/\ks=[.i])\/(P.underlying t=some .string/\ks=[.s])\/(P.underlying t=some .bool/\ks=[.b]))):=by
 cases d with
 |zero=>cases h
 |succ d=>
  unfold Yc at h
  unfold agOf at ha
  split at h
  ·rename_i k hu;cases h;rw[hu]at ha;cases ha;exact .inr ⟨rfl,.inl ⟨k,hu,rfl⟩⟩
  ·rename_i hu;cases h;rw[hu]at ha;cases ha;exact .inr ⟨rfl,.inr (.inl ⟨hu,rfl⟩)⟩
  ·rename_i hu;cases h;rw[hu]at ha;cases ha;exact .inr ⟨rfl,.inr (.inr ⟨hu,rfl⟩)⟩
  ·rename_i fs hu
   rw[hu]at ha
   simp only[Option.map_eq_some_iff]at ha
   obtain⟨i,_,rfl⟩:=ha
   exact .inl ⟨rfl,fs,hu⟩
  ·cases h
theorem keyEq_flat {t:TypeId} {ks:List Knd} {st:Bool} (hs:(st=true/\∃ fs,P.underlying t=some (.struct fs))\/(st=false/\∀ fs,P.underlying t≠some (.struct fs))) {a b:Value} {r:Bool} (h:Wf ks st a b=some r):
  ∃ la lb,Flat P t a la/\Flat P t b lb/\Xt ks la lb=some r:=by
 rcases hs with ⟨rfl,fs,hu⟩|⟨rfl,hu⟩
 ·cases a<;>cases b<;>simp[Wf]at h
  rename_i a b
  exact⟨a.toList,b.toList,by simp[Flat,hu],by simp[Flat,hu],h⟩
 ·have hf:∀ v:Value,Flat P t v [v]:=λv=>by
   unfold Flat
   split
   ·rename_i fs hu';exact absurd hu' (hu fs)
   ·rfl
  refine⟨[a],[b],hf a,hf b,?_⟩
  cases a<;>cases b<;>first|exact h|(simp[Wf]at h;done)
theorem asking_sound {t:TypeId} {ks:List Knd} {st:Bool} (hk:Yc P 20 t=some ks) (hs:(st=true/\∃ fs,P.underlying t=some (.struct fs))\/(st=false/\∀ fs,P.underlying t≠some (.struct fs))) {k:Value}:
  ∀ (es:List MapEntry) (i:Nat) (r:Option (Nat×Value)),Zs ks st k es i=some r->(Instr.findAsking t k es i).run P w=.ok r w
 |[],i,r,h=>by simp only[Zs,Option.some.injEq]at h;subst h;simp[Instr.findAsking]
 |e::es,i,r,h=>by
  simp only[Zs]at h
  split at h
  ·rename_i hq
   cases h
   obtain⟨la,lb,h1,h2,h3⟩:=keyEq_flat hs hq
   have he:=Vj (P:=P) 20 (9999+1) (by omega) t ks hk k e.key la lb true h1 h2 h3 w
   rw[<-Zk]at he
   simp[Instr.findAsking,he]
  ·rename_i hq
   obtain⟨la,lb,h1,h2,h3⟩:=keyEq_flat hs hq
   have he:=Vj (P:=P) 20 (9999+1) (by omega) t ks hk k e.key la lb false h1 h2 h3 w
   rw[<-Zk]at he
   simp[Instr.findAsking,he,asking_sound hk hs es (i+1) r h]
  ·cases h
theorem now_int {k:Value} {dk:IntKind}:∀ (es:List MapEntry) (i:Nat) (r:Option (Nat×Value)),Zs [.i] false k es i=some r->Instr.findNow (.int dk) k es i=some r
 |[],i,r,h=>by simp only[Zs]at h;simp[Instr.findNow,h]
 |e::es,i,r,h=>by
  simp only[Zs]at h
  have key:∀ b,Wf [.i] false k e.key=some b->Instr.sameNow (.int dk) k e.key=some b:=λb hb=>by
   cases k<;>cases hek:e.key<;>rw[hek]at hb<;>simp[Wf,Xt,eqK]at hb
   rename_i k1 n1 k2 n2
   by_cases hkk:k1=k2
   ·simp[hkk]at hb;simp[Instr.sameNow,hkk,hb]
   ·simp[hkk]at hb
  split at h
  ·rename_i hq;cases h;simp[Instr.findNow,key _ hq]
  ·rename_i hq;simp[Instr.findNow,key _ hq,now_int es (i+1) r h]
  ·cases h
theorem now_str {k:Value}:∀ (es:List MapEntry) (i:Nat) (r:Option (Nat×Value)),Zs [.s] false k es i=some r->Instr.findNow .string k es i=some r
 |[],i,r,h=>by simp only[Zs]at h;simp[Instr.findNow,h]
 |e::es,i,r,h=>by
  simp only[Zs]at h
  have key:∀ b,Wf [.s] false k e.key=some b->Instr.sameNow .string k e.key=some b:=λb hb=>by
   cases k<;>cases hek:e.key<;>rw[hek]at hb<;>simp[Wf,Xt,eqK]at hb
   simp[Instr.sameNow,hb]
  split at h
  ·rename_i hq;cases h;simp[Instr.findNow,key _ hq]
  ·rename_i hq;simp[Instr.findNow,key _ hq,now_str es (i+1) r h]
  ·cases h
theorem now_bool {k:Value}:∀ (es:List MapEntry) (i:Nat) (r:Option (Nat×Value)),Zs [.b] false k es i=some r->Instr.findNow .bool k es i=some r
 |[],i,r,h=>by simp only[Zs]at h;simp[Instr.findNow,h]
 |e::es,i,r,h=>by
  simp only[Zs]at h
  have key:∀ b,Wf [.b] false k e.key=some b->Instr.sameNow .bool k e.key=some b:=λb hb=>by
   cases k<;>cases hek:e.key<;>rw[hek]at hb<;>simp[Wf,Xt,eqK]at hb
   simp[Instr.sameNow,hb]
  split at h
  ·rename_i hq;cases h;simp[Instr.findNow,key _ hq]
  ·rename_i hq;simp[Instr.findNow,key _ hq,now_bool es (i+1) r h]
  ·cases h
theorem Wg {t:TypeId} {ks:List Knd} {ag:Option Nat} (hk:Yc P 20 t=some ks) (ha:agOf P t=some ag) {k:Value} {es:List MapEntry} {r:Option (Nat×Value)} (h:Zs ks ag.isSome k es 0=some r):
  (Instr.findKey t k es).run P w=.ok r w:=by
 rcases plain_sort hk ha with ⟨h1,fs,hu⟩|⟨h1,⟨dk,hu,rfl⟩|⟨hu,rfl⟩|⟨hu,rfl⟩⟩
 ·rw[h1]at h
  have hask:=asking_sound (w:=w) hk (.inl ⟨rfl,fs,hu⟩) es 0 r h
  cases es with
  |nil=>simp only[Zs,Option.some.injEq]at h;subst h;simp[Instr.findKey,run_underlying hu,Instr.findNow]
  |cons e es=>simp[Instr.findKey,run_underlying hu,Instr.findNow,Instr.sameNow,hask]
 ·rw[h1]at h;simp[Instr.findKey,run_underlying hu,now_int es 0 r h]
 ·rw[h1]at h;simp[Instr.findKey,run_underlying hu,now_str es 0 r h]
 ·rw[h1]at h;simp[Instr.findKey,run_underlying hu,now_bool es 0 r h]
theorem checkKey_fields {b:Bool} {d D:Nat} (ih:∀ (t:TypeId) (ks:List Knd),Yc P d t=some ks->∀ (v:Value) (l:List Value),Flat P t v l->l.length=ks.length->∀ w,(Instr.checkKey b D t v).run P w=.ok () w) (cs:Array Value) (w:World):
  ∀ (fs:List Field) (n:Nat) (ks:List Knd),Uw P (Yc P d) fs n=some ks->n+ks.length<=cs.size->
  (forIn fs PUnit.unit λ(f:Field) (_:PUnit)=>
   if f.name≠ "_" then do
    let __do_lift <-part f.type cs f.offset
    Instr.checkKey b D f.type __do_lift
    pure (ForInStep.yield PUnit.unit)
   else pure (ForInStep.yield PUnit.unit):Sem PUnit).run P w=.ok PUnit.unit w
 |[],n,ks,h,_=>by simp
 |f::fs,n,ks,h,hl=>by
  simp only[Uw]at h
  split at h
  case isTrue=>cases h
  rename_i hc
  simp only[not_or,Decidable.not_not]at hc
  obtain⟨hname,hoff⟩:=hc
  split at h
  case h_2=>cases h
  rename_i ks1 i hk1 hi
  split at h
  case isFalse=>cases h
  rename_i hsz
  simp only[Option.map_eq_some_iff]at h
  obtain⟨ks2,h2,rfl⟩:=h
  simp only[List.length_append]at hl
  obtain⟨u,hu1,hu2⟩:=part_flat hk1 hi hsz (xs:=cs) (off:=f.offset) (by omega) w
  have hck:=ih f.type ks1 hk1 u _ hu2 (by simp;omega) w
  rw[List.forIn_cons]
  simp only[if_pos hname,Sem.run_bind,hu1,hck,Result.andThen_ok,Sem.run_pure]
  exact checkKey_fields ih cs w fs (n+ks1.length) ks2 h2 (by omega)
theorem checkKey_flat {b:Bool}:∀ (d D:Nat),d<=D->∀ (t:TypeId) (ks:List Knd),Yc P d t=some ks->∀ (v:Value) (l:List Value),Flat P t v l->l.length=ks.length->∀ w,(Instr.checkKey b D t v).run P w=.ok () w
 |0,D,_,t,ks,h,_,_,_,_,_=>by cases h
 |d+1,0,hd,_,_,_,_,_,_,_,_=>by omega
 |d+1,D+1,hd,t,ks,h,v,l,hv,hl,w=>by
  unfold Yc at h
  unfold Flat at hv
  split at h
  ·rename_i k hu;unfold Instr.checkKey;simp[run_underlying hu]
  ·rename_i hu;unfold Instr.checkKey;simp[run_underlying hu]
  ·rename_i hu;unfold Instr.checkKey;simp[run_underlying hu]
  ·rename_i fs hu
   rw[hu]at hv
   simp only at hv
   subst hv
   split at h
   case isTrue=>cases h
   have key:=checkKey_fields (b:=b) (checkKey_flat d D (by omega)) l.toArray w fs.toList 0 ks h (by simp[hl])
   unfold Instr.checkKey
   simp only[Sem.run_bind,run_underlying hu,Result.andThen_ok]
   rw[<-Array.forIn_toList,key]
   rfl
  ·cases h
theorem checkKey_key {b:Bool} {t:TypeId} {ks:List Knd} {ag:Option Nat} (hk:Yc P 20 t=some ks) (ha:agOf P t=some ag) {k:Value} (h1:isAggV k=ag.isSome) (h2:k.cells.size=ks.length):(Instr.checkKey b 10000 t k).run P w=.ok () w:=by
 refine checkKey_flat 20 10000 (by omega) t ks hk k k.cells.toList ?_ (by simpa using h2) w
 unfold Flat
 rcases plain_sort hk ha with ⟨h3,fs,hu⟩|⟨h3,h4⟩
 ·rw[hu]
  rw[h3]at h1
  cases k<;>simp[isAggV]at h1
  simp[Value.cells]
 ·rw[h3]at h1
  have:k.cells.toList=[k]:=by cases k<;>simp[isAggV]at h1<;>rfl
  rcases h4 with ⟨_,hu,_⟩|⟨hu,_⟩|⟨hu,_⟩<;>rw[hu]<;>exact this
theorem bytes_eq {a b:ByteArray} (h:(a==b)=true):a=b:=by
 cases a;cases b
 rename_i x y
 have:(x==y)=true:=h
 rw[eq_of_beq this]
theorem bytes_refl (a:ByteArray):(a==a)=true:=by
 cases a
 rename_i x
 show(x==x)=true
 simp
theorem eqK_true {k:Knd} {a b:Value} (h:eqK k a b=some true):a=b:=by
 cases k<;>cases a<;>cases b<;>simp[eqK]at h
 ·rename_i k1 n1 k2 n2;obtain⟨rfl,rfl⟩:=h;rfl
 ·rw[bytes_eq h]
 ·rw[h]
theorem eqVals_true:∀ {ks:List Knd} {a b:List Value},Xt ks a b=some true->a=b
 |[],[],[],_=>rfl
 |k::ks,x::a,y::b,h=>by
  simp only[Xt]at h
  split at h
  ·rename_i p q h1 h2
   simp at h
   obtain⟨rfl,rfl⟩:=h
   rw[eqK_true h1,eqVals_true h2]
  ·cases h
 |[],[],_::_,h=>by simp[Xt]at h
 |[],_::_,_,h=>by simp[Xt]at h
 |_::_,[],_,h=>by simp[Xt]at h
 |_::_,_::_,[],h=>by simp[Xt]at h
theorem eqK_bits {k:Knd} {a:Value} {r:Bool} (h:eqK k a a=some r) (n:Nat):Instr.sameBits n a a=true:=by
 cases k<;>cases a<;>simp[eqK]at h<;>(cases n<;>simp[Instr.sameBits,bytes_refl])
theorem eqVals_bits (n:Nat):∀ {ks:List Knd} {a:List Value} {r:Bool},Xt ks a a=some r->(a.zip a).all (λ(x,y)=>Instr.sameBits n x y)=true
 |[],[],_,_=>rfl
 |k::ks,x::a,r,h=>by
  simp only[Xt]at h
  split at h
  ·rename_i p q h1 h2
   rw[List.zip_cons_cons,List.all_cons,eqVals_bits n h2]
   simp[eqK_bits h1 n]
  ·cases h
theorem keyEq_true {ks:List Knd} {st:Bool} {a b:Value} (h:Wf ks st a b=some true):a=b/\Instr.sameBits 10000 b a=true:=by
 cases st with
 |true=>
  cases a<;>cases b<;>simp[Wf]at h
  rename_i a b
  have e:a=b:=by apply Array.ext';exact eqVals_true h
  subst e
  refine⟨rfl,?_⟩
  have:=eqVals_bits 9999 h
  show Instr.sameBits (9999+1) _ _=true
  simp only[Instr.sameBits,beq_self_eq_true,Bool.true_and]
  exact this
 |false=>
  have h':Xt ks [a] [b]=some true:=by cases a<;>cases b<;>first|exact h|(simp[Wf]at h;done)
  have e:a=b:=by have:=eqVals_true h';simpa using this
  subst e
  refine⟨rfl,?_⟩
  match ks,h' with
  |[k],h'=>
   simp only[Xt]at h'
   split at h'
   ·rename_i p q h1 h2;exact eqK_bits h1 _
   ·cases h'
  |[],h'=>simp[Xt]at h'
  |_::_::_,h'=>simp[Xt]at h'
theorem findP_some {ks:List Knd} {st:Bool} {k:Value}:∀ {es:List MapEntry} {i j:Nat} {v:Value},Zs ks st k es i=some (some (j,v))->∃ e,i<=j/\es[j-i]?=some e/\Wf ks st k e.key=some true
 |[],i,j,v,h=>by simp[Zs]at h
 |e::es,i,j,v,h=>by
  simp only[Zs]at h
  split at h
  ·rename_i hq;cases h;exact⟨e,Nat.le_refl _,by simp,hq⟩
  ·obtain⟨e',h1,h2,h3⟩:=findP_some h
   refine⟨e',by omega,?_,h3⟩
   rw[show j-i=(j-(i+1))+1 by omega]
   simpa using h2
  ·cases h
theorem mapM_sc:∀ {cs:List PV} {l:List Value},((cs.mapM λp:PV=>match p with|.sc v=>some v|_=>none):Option (List Value))=some l->cs=l.map .sc
 |[],l,h=>by simp at h;subst h;rfl
 |c::cs,l,h=>by
  rw[List.mapM_cons]at h
  simp only[Option.bind_eq_bind,Option.bind_eq_some_iff,Option.pure_def,Option.some.injEq]at h
  obtain⟨v,hv,l',hl,rfl⟩:=h
  split at hv
  ·cases hv;rw[mapM_sc hl];rfl
  ·cases hv
theorem toV_inv {p:PV} {v u:Value} (h:toV p=some v) (hr:RV g p u):u=v:=by
 cases hr with
 |sc hp=>simp[toV]at h;exact h
 |agg hn hk=>
  rename_i cs vs
  simp only[toV,Option.map_eq_some_iff]at h
  obtain⟨l,hl,rfl⟩:=h
  have e:=mapM_sc hl
  subst e
  congr 1
  apply Array.ext'
  apply List.ext_getElem?
  intro i
  cases hi:l[i]? with
  |none=>
   have:l.length<=i:=by simpa using hi
   rw[List.getElem?_eq_none (by simp at hn ⊢;omega)]
  |some x=>
   have hlt:i<vs.size:=by simp at hn;have:=(List.getElem?_eq_some_iff.1 hi).1;omega
   have:=(Yr (hk i (.sc x) vs[i] (by simp[hi]) (Array.getElem?_eq_getElem hlt))).1
   simp[hlt,this]
 |_=>simp[toV]at h
theorem findI_P {ks:List Knd} {st:Bool} {k:Value}:∀ (es:List MapEntry) (i:Nat) (r:Option Nat),findI ks st k (es.map λe=>(e.key,e.born)) i=some r->
  (r=none/\Zs ks st k es i=some none)\/∃ j e,r=some j/\i<=j/\es[j-i]?=some e/\Zs ks st k es i=some (some (j,e.val))/\Wf ks st k e.key=some true
 |[],i,r,h=>by simp only[List.map_nil,findI,Option.some.injEq]at h;exact .inl ⟨h.symm,rfl⟩
 |e::es,i,r,h=>by
  simp only[List.map_cons,findI]at h
  split at h
  ·rename_i hq
   cases h
   exact .inr ⟨i,e,rfl,Nat.le_refl _,by simp,by simp[Zs,hq],hq⟩
  ·rename_i hq
   rcases findI_P es (i+1) r h with ⟨h1,h2⟩|⟨j,e',h1,h2,h3,h4,h5⟩
   ·exact .inl ⟨h1,by simp[Zs,hq,h2]⟩
   ·refine .inr ⟨j,e',h1,by omega,?_,by simp[Zs,hq,h4],h5⟩
    rw[show j-i=(j-(i+1))+1 by omega]
    simpa using h3
  ·cases h
theorem get_map (hI:Inv g H w) {k b:Nat} {kl:List (Value×Nat)} {vals:List PV} {c:Nat} (hk:H[k]?=some (.map kl vals c)) (hb:g.B k=some b):
  ∃ es:Array MapEntry,w.heap[b]?=some (.map es c)/\es.toList.map (λe=>(e.key,e.born))=kl/\LR g vals (es.map (·.val)):=by
 rcases hI.blk k _ hk with h|⟨b',es,h1,h2,h3,h4⟩
 ·rw[hb]at h;cases h
 ·rw[hb]at h1;cases h1;exact⟨es,h2,h3,h4⟩
theorem set_obj (hI:Inv g H w) {k b:Nat} {x x':Blk} {o o':Obj} (hk:H[k]?=some x) (hb:g.B k=some b) (ho:w.heap[b]?=some o) (hc:∀ vs e f,o≠.cells vs e f)
  (hx:∀ w':World,w'.heap[b]?=some o'->BOk g w' k x'):
  Step H.length g w g { w with heap:=w.heap.setIfInBounds b o' }/\Inv g (H.set k x') { w with heap:=w.heap.setIfInBounds b o' }:=by
 have hO:=hI.own k b hb
 have hlt:b<w.heap.size:=(Array.getElem?_eq_some_iff.1 ho).1
 have hne:∀ i,i≠b->(w.heap.setIfInBounds b o')[i]?=w.heap[i]?:=λi hi=>by rw[Array.getElem?_setIfInBounds,if_neg (λe=>hi e.symm)]
 have hsame:(w.heap.setIfInBounds b o')[b]?=some o':=by rw[Array.getElem?_setIfInBounds,if_pos rfl,if_pos hlt]
 refine⟨⟨.refl g,λ_ _=>rfl,rfl,rfl,rfl,by simp,λi hi h=>hne i (λe=>by rw[e,hO]at h;cases h),λ_ _ h=>.inl h,λ_ _ _ _=>rfl⟩,
  ⟨λi o v h=>?_,λj x hx'=>?_,hI.own,λi j h=>by simpa using hI.lt i j h,λj hj=>hI.domB j (by simpa using hj),λj n hj=>hI.domT j n (by simpa using hj),λi j h=>by simpa using hI.domO i j h⟩⟩
 ·have h1:=hI.C i o v h
  have hi:i≠b:=λe=>by
   rw[e]at h1
   unfold World.cell? at h1
   simp only[ho]at h1
   split at h1
   ·rename_i heq;cases heq;exact hc _ _ _ rfl
   ·cases h1
  exact(World.cell?_of_block (w:=w) (a:=⟨i,o,none⟩) (hne i hi)).trans h1
 ·rcases Yi hx' with ⟨rfl,rfl⟩|⟨hjk,hx'⟩
  ·exact hx _ hsame
  ·refine(hI.blk j x hx').keep (.refl g) rfl (λ_=>rfl) (λi hi=>⟨hne i (λe=>?_),λ_=>rfl⟩) hI.own
   rw[e,hO]at hi;exact hjk (Option.some.inj hi).symm
theorem set_map (hI:Inv g H w) {k b:Nat} {kl kl':List (Value×Nat)} {vals vals':List PV} {c c':Nat} (hk:H[k]?=some (.map kl vals c)) (hb:g.B k=some b) (es':Array MapEntry) (h1:es'.toList.map (λe=>(e.key,e.born))=kl') (h2:LR g vals' (es'.map (·.val))):
  Step H.length g w g { w with heap:=w.heap.setIfInBounds b (.map es' c') }/\Inv g (H.set k (.map kl' vals' c')) { w with heap:=w.heap.setIfInBounds b (.map es' c') }:=by
 obtain⟨es,ho,_,_⟩:=get_map hI hk hb
 exact set_obj hI hk hb ho (λ_ _ _ e=>by cases e) λw' hw=>.inr ⟨b,es',hb,hw,h1,h2⟩
theorem zeroV_sound {t:TypeId} {p:PV} (h:zeroV P t=some p):∃ zv,(∀ w,(zeroValue t).run P w=.ok zv w)/\∀ g,RV g p zv:=by
 unfold zeroV at h
 cases hi:P.info? t with
 |none=>simp[hi]at h
 |some i=>
  cases hz:i.zero with
  |none=>simp[hi,hz]at h
  |some zv=>simp[hi,hz]at h;exact⟨zv,λw=>run_zeroValue hi hz w,λg=>ofV_sound h⟩
theorem out_lookup (hI:Inv g H w) {t kt e:TypeId} (hu:P.underlying t=some (.map kt e)) {ks:List Knd} {ag:Option Nat} (hk:Yc P 20 kt=some ks) (ha:agOf P kt=some ag) {zero:PV} (hz:zeroV P e=some zero) {kp mp p:PV} {kv kx mx:Value} (hkv:toV kp=some kv) (hkr:RV g kp kx) (hm:RV g mp mx)
  (h1:isAggV kv=ag.isSome) (h2:kv.cells.size=ks.length) {ok:Bool}
  (h:(mp=.sc (.map none)/\p=(if ok then .tup [zero,.sc (.bool false)] else zero))\/∃ b kl vals c,mp=.mp b/\H[b]?=some (.map kl vals c)/\
   ((∃ i q,findI ks ag.isSome kv kl 0=some (some i)/\vals[i]?=some q/\p=(if ok then .tup [q,.sc (.bool true)] else q))\/(findI ks ag.isSome kv kl 0=some none/\p=(if ok then .tup [zero,.sc (.bool false)] else zero)))):
  ∃ v,(Instr.lookup t mx kx ok).run P w=.ok v w/\RV g p v:=by
 have hkx:kx=kv:=toV_inv hkv hkr
 subst hkx
 obtain⟨zv,hz1,hz2⟩:=zeroV_sound hz
 have two:∀ {q:PV} {v:Value} {b:Bool},RV g q v->RV g (if ok then .tup [q,.sc (.bool b)] else q) (if ok then .tuple #[v,.bool b] else v):=λ{q v b} hq=>by
  cases ok with
  |false=>exact hq
  |true=>
   refine .tup rfl λi x u hx hu=>?_
   match i,hx,hu with
   |0,hx,hu=>simp at hx hu;subst hx;subst hu;exact hq
   |1,hx,hu=>simp at hx hu;subst hx;subst hu;exact .sc rfl
   |i+2,hx,hu=>simp at hx
 rcases h with ⟨rfl,rfl⟩|⟨b,kl,vals,c,rfl,hb,h⟩
 ·obtain⟨rfl,_⟩:=Yr hm
  have hck:=checkKey_key (P:=P) (w:=w) (b:=true) hk ha h1 h2
  have hfk:=Wg (P:=P) (w:=w) hk ha (k:=kx) (es:=[]) (r:=none) rfl
  exact⟨_,by simp[Instr.lookup,run_underlying hu,hck,hfk,hz1],two (hz2 g)⟩
 ·cases hm with
  |mp hB=>
   rename_i bb
   obtain⟨es,ho,hkl,hvals⟩:=get_map hI hb hB
   subst hkl
   have hck:=checkKey_key (P:=P) (w:=w) (b:=es.isEmpty) hk ha h1 h2
   have hgo:(getObj bb).run P w=.ok (.map es c) w:=by simp[getObj,Sem.run,ho]
   rcases h with ⟨i,q,hf,hq,rfl⟩|⟨hf,rfl⟩
   ·rcases findI_P es.toList 0 _ hf with ⟨e1,_⟩|⟨j,en,e1,_,hen,hfp,_⟩
    ·cases e1
    ·cases e1
     have hfk:=Wg (P:=P) (w:=w) hk ha hfp
     have hen:es[i]?=some en:=by simpa using hen
     have hqv:RV g q en.val:=hvals.2 i q en.val hq (by rw[Array.getElem?_map,hen];rfl)
     exact⟨_,by simp only[Instr.lookup,Sem.run_bind,run_underlying hu,Result.andThen_ok,hgo,hck,hfk,Sem.run_pure],two hqv⟩
   ·rcases findI_P es.toList 0 _ hf with ⟨_,hfp⟩|⟨j,en,e1,_⟩
    ·have hfk:=Wg (P:=P) (w:=w) hk ha hfp
     exact⟨_,by simp only[Instr.lookup,Sem.run_bind,run_underlying hu,Result.andThen_ok,hgo,hck,hfk,Sem.run_pure,hz1],two (hz2 g)⟩
    ·cases e1
theorem out_mapUp (hI:Inv g H w) {t kt e:TypeId} (hu:P.underlying t=some (.map kt e)) {ks:List Knd} {ag:Option Nat} (hk:Yc P 20 kt=some ks) (ha:agOf P kt=some ag) {kp vp:PV} {kv kx mx vx:Value} (hkv:toV kp=some kv) (hkr:RV g kp kx) (hvr:RV g vp vx) {b:Nat} (hm:RV g (.mp b) mx)
  (h1:isAggV kv=ag.isSome) (h2:kv.cells.size=ks.length) {kl:List (Value×Nat)} {vals:List PV} {c:Nat} (hb:H[b]?=some (.map kl vals c)) {H':List Blk}
  (h:(∃ i,findI ks ag.isSome kv kl 0=some (some i)/\H'=H.set b (.map kl (vals.set i vp) c))\/(findI ks ag.isSome kv kl 0=some none/\H'=H.set b (.map (kl++[(kv,c)]) (vals++[vp]) (c+1)))):
  ∃ w',(Instr.mapUpdate t mx kx vx).run P w=.ok () w'/\Step H.length g w g w'/\Inv g H' w':=by
 have hkx:kx=kv:=toV_inv hkv hkr
 subst hkx
 cases hm with
 |mp hB=>
  rename_i bb
  have hck:=checkKey_key (P:=P) (w:=w) (b:=false) hk ha h1 h2
  obtain⟨es,ho,hkl,hvals⟩:=get_map hI hb hB
  subst hkl
  have hgo:(getObj bb).run P w=.ok (.map es c) w:=by simp[getObj,Sem.run,ho]
  rcases h with ⟨i,hf,rfl⟩|⟨hf,rfl⟩
  ·rcases findI_P es.toList 0 _ hf with ⟨e1,_⟩|⟨j,en,e1,_,hen,hfp,hkey⟩
   ·cases e1
   cases e1
   have hen:es[i]?=some en:=by simpa using hen
   obtain⟨hkk,hbits⟩:=keyEq_true hkey
   obtain⟨hS,hI'⟩:=set_map (kl':=es.toList.map λe=>(e.key,e.born)) (vals':=vals.set i vp) (c':=c) hI hb hB (es.modify i λe=>{ e with key:=kx,val:=vx }) (by
    apply List.ext_getElem?
    intro q
    simp only[List.getElem?_map,Array.getElem?_toList,Array.getElem?_modify]
    by_cases hq:i=q
    ·subst hq;simp[hen,hkk]
    ·simp[hq]) (by
    refine⟨by simpa using hvals.1,λq p v hp hv=>?_⟩
    simp only[Array.getElem?_map,Array.getElem?_modify]at hv
    rw[List.getElem?_set]at hp
    by_cases hq:i=q
    ·subst hq
     simp[hen]at hv
     subst hv
     simp only[if_pos]at hp
     split at hp
     ·cases hp;exact hvr
     ·cases hp
    ·rw[if_neg hq]at hp
     rw[if_neg hq]at hv
     exact hvals.2 q p v hp (by rw[Array.getElem?_map];exact hv))
   have hfk:=Wg (P:=P) (w:=w) hk ha hfp
   have hold:((es[i]?).map (·.key)).getD kx=kx:=by rw[hen];exact hkk.symm
   have hks:(Instr.keyThatStays kx kx).run P w=.ok kx w:=by
    rw[<-hkk]at hbits
    simp[Instr.keyThatStays,hbits]
   exact⟨_,by simp only[Instr.mapUpdate,Sem.run_bind,run_underlying hu,Result.andThen_ok,hgo,hck,hfk,hold,hks];simp[setObj,Sem.run,ho],hS,hI'⟩
  ·rcases findI_P es.toList 0 _ hf with ⟨_,hfp⟩|⟨j,en,e1,_⟩
   case inr=>cases e1
   obtain⟨hS,hI'⟩:=set_map (kl':=(es.toList.map λe=>(e.key,e.born))++[(kx,c)]) (vals':=vals++[vp]) (c':=c+1) hI hb hB (es.push { key:=kx,val:=vx,born:=c }) (by simp) (by
    have:=LR.append hvals (show LR g [vp] #[vx] from ⟨rfl,λi p v hp hv=>by
     cases i with
     |zero=>simp at hp hv;subst hp;subst hv;exact hvr
     |succ i=>simp at hp⟩)
    simpa [Array.map_push] using this)
   have hfk:=Wg (P:=P) (w:=w) hk ha hfp
   exact⟨_,by simp only[Instr.mapUpdate,Sem.run_bind,run_underlying hu,Result.andThen_ok,hgo,hck,hfk];simp[setObj,Sem.run,ho],hS,hI'⟩
theorem out_range (hI:Inv g H w) {t kt e:TypeId} (hu:P.underlying t=some (.map kt e)) {m:Nat} {mx:Value} (hm:RV g (.mp m) mx) {kl:List (Value×Nat)} {vals:List PV} {c:Nat} (hb:H[m]?=some (.map kl vals c)) (hlt:m<H.length):
  ∃ v w' g',(Instr.range t mx).run P w=.ok v w'/\Step H.length g w g' w'/\Inv g' (H++[.iter m c [] c]) w'/\RV g' (.bp H.length 0) v:=by
 cases hm with
 |mp hB=>
  rename_i bb
  obtain⟨es,ho,_,_⟩:=get_map hI hb hB
  obtain⟨g',h1,h2,h3⟩:=new_iter hI hlt hB c c
  exact⟨_,_,g',by simp[Instr.range,run_underlying hu,getObj,Sem.run,ho],h1,h2,.bp h3⟩
theorem get_iter (hI:Inv g H w) {k b m since last:Nat} {seen:List Nat} (hk:H[k]?=some (.iter m since seen last)) (hb:g.B k=some b):
  ∃ bm,m<k/\g.B m=some bm/\w.heap[b]?=some (.mapIter (some bm) since seen.toArray last):=by
 rcases hI.blk k _ hk with h|⟨b',bm,h1,h2,h3,h4⟩
 ·rw[hb]at h;cases h
 ·rw[hb]at h1;cases h1;exact⟨bm,h2,h3,h4⟩
theorem zip_filter {es:List MapEntry} {vals:List PV} (hl:vals.length=es.length) (f:Nat->Bool):
  ((es.map λe=>(e.key,e.born)).zip vals).filter (λe=>f e.1.2)=((es.zip vals).filter λe=>f e.1.born).map λe=>((e.1.key,e.1.born),e.2):=by
 induction es generalizing vals with
 |nil=>simp
 |cons e es ih=>
  cases vals with
  |nil=>simp at hl
  |cons v vals=>
   have:=ih (vals:=vals) (by simpa using hl)
   simp only[List.map_cons,List.zip_cons_cons,List.filter_cons]
   split<;>simp[this]
theorem filter_zip {es:List MapEntry} {vals:List PV} (hl:vals.length=es.length) (f:Nat->Bool):
  ((es.zip vals).filter λe=>f e.1.born).map (·.1)=es.filter λe=>f e.born:=by
 induction es generalizing vals with
 |nil=>simp
 |cons e es ih=>
  cases vals with
  |nil=>simp at hl
  |cons v vals=>
   have:=ih (vals:=vals) (by simpa using hl)
   simp only[List.zip_cons_cons,List.filter_cons]
   split<;>simp[this]
theorem zip_val {es:Array MapEntry} {vals:List PV} (h:LR g vals (es.map (·.val))) {e:MapEntry} {p:PV} (hm:(e,p)∈es.toList.zip vals):RV g p e.val:=by
 obtain⟨i,hi⟩:=List.mem_iff_getElem?.1 hm
 rw[List.getElem?_zip_eq_some]at hi
 exact h.2 i p e.val hi.2 (by rw[Array.getElem?_map];have:=hi.1;simp at this;simp[this])
theorem out_next (hI:Inv g H w) {ty:TypeId} {k:Nat} {kx:Value} (hx:RV g (.bp k 0) kx) {m since last:Nat} {seen:List Nat} (hk:H[k]?=some (.iter m since seen last)) {kl:List (Value×Nat)} {vals:List PV} {c:Nat} (hm:H[m]?=some (.map kl vals c))
  (h1:(kl.all λe=>decide (e.2<since))=true) (h2:since<=last) {p:PV} {H':List Blk}
  (h:((kl.zip vals).filter (λe=>!seen.contains e.1.2)=[]/\p=.tup [.sc (.bool false)]/\H'=H)\/
   ∃ e kp,(kl.zip vals).filter (λe=>!seen.contains e.1.2)=[e]/\ofV e.1.1=some kp/\p=.tup [.sc (.bool true),kp,e.2]/\H'=H.set k (.iter m since (seen++[e.1.2]) c)):
  ∃ v w',(Instr.next kx false ty).run P w=.ok v w'/\Step H.length g w g w'/\Inv g H' w'/\RV g p v:=by
 cases hx with
 |bp hB=>
  rename_i b
  obtain⟨bm,hmk,hBm,ho⟩:=get_iter hI hk hB
  obtain⟨es,hom,hkl,hvals⟩:=get_map hI hm hBm
  subst hkl
  have hold:∀ x∈es.toList,x.born<since:=λx hx=>by
   have:=List.all_eq_true.1 h1 (x.key,x.born) (List.mem_map.2 ⟨x,hx,rfl⟩)
   simpa using this
  have hlen:vals.length=es.toList.length:=by simpa using hvals.1
  have hleft:∀ l,((es.toList.map λe=>(e.key,e.born)).zip vals).filter (λe=>!seen.contains e.1.2)=l->∃ l':List (MapEntry×PV),l'.map (λe=>((e.1.key,e.1.born),e.2))=l/\l'.map (·.1)=(leftOf es seen.toArray).toList/\∀ x∈l',x∈es.toList.zip vals:=λl hl=>by
   refine⟨(es.toList.zip vals).filter λe=>!seen.contains e.1.born,?_,?_,λx hx=>(List.mem_filter.1 hx).1⟩
   ·rw[<-zip_filter hlen (λn=>!seen.contains n)];exact hl
   ·rw[filter_zip hlen (λn=>!seen.contains n)]
    simp[leftOf]
  rcases run_next_at (P:=P) w ty b bm since last seen.toArray es c ho hom hold h2 with ⟨hz,hrun⟩|⟨e,he,w1,hw1,hrun⟩
  ·rcases h with ⟨hl,rfl,rfl⟩|⟨e,kp,hl,_⟩
   ·exact⟨_,w,hrun,.refl _ _ _,hI,.tup rfl λi x u hx hu=>by
     cases i with
     |zero=>simp at hx hu;subst hx;subst hu;exact .sc rfl
     |succ i=>simp at hx⟩
   ·obtain⟨l',e1,e2,_⟩:=hleft _ hl
    have:l'.length=1:=by simpa using congrArg List.length e1
    have h3:=congrArg List.length e2
    simp at h3
    omega
  ·rcases h with ⟨hl,_⟩|⟨e',kp,hl,hkp,rfl,rfl⟩
   ·obtain⟨l',e1,e2,_⟩:=hleft _ hl
    have:l'=[]:=by simpa using e1
    subst this
    rw[<-e2]at he
    simp at he
   ·obtain⟨l',e1,e2,e3⟩:=hleft _ hl
    match l',e1 with
    |[x],e1=>
     simp only[List.map_cons,List.map_nil,List.cons.injEq,and_true]at e1
     subst e1
     rw[<-e2]at he
     simp only[List.map_cons,List.map_nil,List.mem_singleton]at he
     subst he
     have hval:=zip_val hvals (e3 x (by simp))
     have hI1:Inv g H w1:=by
      rcases hw1 with rfl|rfl
      ·exact hI
      ·exact⟨hI.C,λk x hx=>by
        have:=hI.blk k x hx
        cases x<;>exact this,hI.own,hI.lt,hI.domB,hI.domT,hI.domO⟩
     have ho1:w1.heap[b]?=some (.mapIter (some bm) since seen.toArray last):=by rcases hw1 with rfl|rfl<;>exact ho
     have hS1:Step H.length g w g w1:=by
      rcases hw1 with rfl|rfl
      ·exact .refl _ _ _
      ·exact⟨.refl g,λ_ _=>rfl,rfl,rfl,rfl,Nat.le_refl _,λ_ _ _=>rfl,λ_ _ h=>.inl h,λ_ _ _ _=>rfl⟩
     obtain⟨hS,hI'⟩:=set_obj (x':=.iter m since (seen++[x.1.born]) c) (o':=.mapIter (some bm) since (seen.toArray.push x.1.born) c) hI1 hk hB ho1 (λ_ _ _ e=>by cases e) λw' hw=>.inr ⟨b,bm,hB,hmk,hBm,by rw[hw];simp⟩
     refine⟨_,_,hrun,hS1.trans hS (Nat.le_refl _),hI',.tup rfl λi q u hq hu=>?_⟩
     match i,hq,hu with
     |0,hq,hu=>simp at hq hu;subst hq;subst hu;exact .sc rfl
     |1,hq,hu=>simp at hq hu;subst hq;subst hu;exact ofV_sound hkp
     |2,hq,hu=>simp at hq hu;subst hq;subst hu;exact hval
     |i+3,hq,hu=>simp at hq
theorem zip_find {es:List MapEntry} {vals:List PV} {f:Nat->Bool} {x:(Value×Nat)×PV} (h:((es.map λe=>(e.key,e.born)).zip vals).find? (λe=>f e.1.2)=some x) (hl:vals.length=es.length):
  ∃ e,es.find? (λe=>f e.born)=some e/\x.1.1=e.key/\(e,x.2)∈es.zip vals:=by
 induction es generalizing vals with
 |nil=>simp at h
 |cons e es ih=>
  cases vals with
  |nil=>simp at hl
  |cons v vals=>
   simp only[List.map_cons,List.zip_cons_cons,List.find?_cons]at h ⊢
   cases hf:f e.born with
   |true=>
    rw[hf]at h
    cases h
    exact⟨e,rfl,rfl,by simp⟩
   |false=>
    rw[hf]at h
    obtain⟨e',h1,h2,h3⟩:=ih h (by simpa using hl)
    exact⟨e',h1,h2,List.mem_cons_of_mem _ h3⟩
theorem out_entry (hI:Inv g H w) {k:Nat} {kx:Value} (hx:RV g (.bp k 0) kx) {m since last:Nat} {seen:List Nat} (hk:H[k]?=some (.iter m since seen last)) {kl:List (Value×Nat)} {vals:List PV} {c:Nat} (hm:H[m]?=some (.map kl vals c))
  (h1:c=last) (h2:vals.length=kl.length) {stamp:Nat} (h3:seen.getLast?=some stamp) {e:(Value×Nat)×PV} (h4:(kl.zip vals).find? (λe=>e.1.2==stamp)=some e) {kp:PV} (h5:ofV e.1.1=some kp):
  ∃ v,(Instr.entry kx).run P w=.ok v w/\RV g (.tup [kp,e.2]) v:=by
 cases hx with
 |bp hB=>
  rename_i b
  obtain⟨bm,hmk,hBm,ho⟩:=get_iter hI hk hB
  obtain⟨es,hom,hkl,hvals⟩:=get_map hI hm hBm
  subst hkl
  subst h1
  obtain⟨en,e1,e2,e3⟩:=zip_find (f:=λn=>n==stamp) h4 (by simpa using h2)
  have hb:seen.toArray.back?=some stamp:=by simpa using h3
  have hf:es.find? (λe=>e.born==stamp)=some en:=by rw[<-Array.find?_toList];exact e1
  refine⟨.tuple #[en.key,en.val],by simp[Instr.entry,getObj,Sem.run,ho,hom,hb,hf],.tup rfl λi q u hq hu=>?_⟩
  match i,hq,hu with
  |0,hq,hu=>simp at hq hu;subst hq;subst hu;rw[e2]at h5;exact ofV_sound h5
  |1,hq,hu=>simp at hq hu;subst hq;subst hu;exact zip_val hvals e3
  |i+2,hq,hu=>simp at hq
end
end Go.PE
