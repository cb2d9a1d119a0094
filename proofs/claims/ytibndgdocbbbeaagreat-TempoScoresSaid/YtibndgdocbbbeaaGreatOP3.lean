/- A part of the proof. -/
import Derived.Test.YtibndgdocbbbeaaGreatSY10
import Derived.WalkKit
import Derived.ProofKit
import Derived.OpenShut
import Derived.Deep.Slices
import Derived.SizedLaws
set_option linter.all false
namespace Go.PE
open Go.RowKit Go.ChangeShapes Go.WideShapes
def ghw (w:World):Gh:=⟨λb o=>w.cell? ⟨b,o,none⟩,λ_ _=>none,λ_=>none,λ_=>none⟩
theorem inv_ghw (w:World):Inv (ghw w) [] w:=⟨λ_ _ _ h=>h,λ_ _ h=>(by simp at h),λ_ _ h=>(nomatch h),λ_ _ h=>(nomatch h),λ_ _=>rfl,λ_ _ _=>rfl,λ_ _ h=>(nomatch h)⟩
def LV (g:Gh) (ps:List PV) (cs:List Value):Prop:=ps.length=cs.length/\∀ (i:Nat) (p:PV) (v:Value),ps[i]?=some p->cs[i]?=some v->RV g p v
theorem LV.one {g:Gh} {p:PV} {v:Value} (h:RV g p v):LV g [p] [v]:=⟨rfl,λi q u hq hu=>by
 cases i with
 |zero=>simp at hq hu;subst hq hu;exact h
 |succ i=>simp at hq⟩
def DOp {α:Type} (P:Program) (t:TypeId) (c:α->List PV) (B:α->Prop):Prop:=∀ {H:Type} (enc:TypeId×Value->H) (w:World) (base:Nat) (held:Bool) (fuel:Nat) (cs:List Value) (x:DataW H×List MemPlace),DataW.trod enc P w base (λ_=>true) held fuel t cs=some x->(∀ n∈x.1.weights P t,n<=reachBytes)->∃ a,B a/\LV (ghw w) (c a) cs
variable {P:Program}
theorem Xq {t:TypeId} (ht:P.underlying t=some (.int .i64)):DOp P t (λn:Int=>[.sc (.int .i64 n)]) (λn=>-9223372036854775808<=n/\n<=9223372036854775807):=by
 intro H enc w base held fuel cs x h _
 obtain⟨n,rfl,_,hw⟩:=DataW.trod_int ht h
 exact⟨n,bounds_i64 hw,.one (.sc rfl)⟩
theorem op_bool {t:TypeId} (ht:P.underlying t=some .bool):DOp P t (λn:Bool=>[.sc (.bool n)]) (λ_=>True):=by
 intro H enc w base held fuel cs x h _
 obtain⟨n,rfl,_⟩:=DataW.trod_bool ht h
 exact⟨n,trivial,.one (.sc rfl)⟩
theorem op_str {t:TypeId} (ht:P.underlying t=some .string):DOp P t (λn:ByteArray=>[.sc (.string n)]) (λs=>s.size<=maxLen):=by
 intro H enc w base held fuel cs x h _
 obtain⟨n,rfl,_,hw⟩:=DataW.trod_string ht h
 exact⟨n,hw,.one (.sc rfl)⟩
def DOpF {α:Type} (P:Program) (fs:List Field) (off:Nat) (c:α->List PV) (B:α->Prop):Prop:=∀ {H:Type} (enc:TypeId×Value->H) (w:World) (base:Nat) (held:Bool) (fuel:Nat) (cs:List Value),
 (∀ f∈fs,∃ x,DataW.trod enc P w base (λ_=>true) held fuel f.type ((cs.drop f.offset).take (P.cellsOf f.type))=some x/\∀ n∈x.1.weights P f.type,n<=reachBytes)->∃ a,B a/\∀ (i:Nat) (p:PV) (v:Value),(c a)[i]?=some p->cs[off+i]?=some v->RV (ghw w) p v
theorem Yq {off:Nat}:DOpF P [] off (λ_:Unit=>[]) (λ_=>True):=λ_ _ _ _ _ _ _=>⟨(),trivial,λi p v h=>by simp at h⟩
theorem Xf {α β:Type} {f:Field} {fs:List Field} {off:Nat} {c1:α->List PV} {B1:α->Prop} {c2:β->List PV} {B2:β->Prop} (h:DOp P f.type c1 B1) (k:DOpF P fs (off+P.cellsOf f.type) c2 B2) (ho:f.offset=off:=by kernel_rfl) (hc:∀ a,(c1 a).length=P.cellsOf f.type:=by intro _;kernel_rfl):
  DOpF P (f::fs) off (λp:α×β=>c1 p.1++c2 p.2) (λp=>B1 p.1/\B2 p.2):=by
 intro H enc w base held fuel cs hx
 obtain⟨x,hx1,hx2⟩:=hx f (List.mem_cons_self ..)
 obtain⟨a,ha,hl⟩:=h _ _ _ _ _ _ _ hx1 hx2
 obtain⟨b,hb,hk⟩:=k enc w base held fuel cs λg hg=>hx g (List.mem_cons_of_mem _ hg)
 refine⟨(a,b),⟨ha,hb⟩,λi p v hp hv=>?_⟩
 generalize P.cellsOf f.type=n at *
 by_cases hi:i<n
 ·rw[List.getElem?_append_left (by rw[hc];exact hi)]at hp
  refine hl.2 i p v hp ?_
  rw[ho,List.getElem?_take_of_lt hi,List.getElem?_drop]
  exact hv
 ·rw[List.getElem?_append_right (by rw[hc];omega),hc]at hp
  exact hk (i-n) p v hp (by rw[show off+n+(i-n)=off+i by omega];exact hv)
theorem Xx {α β:Type} {t:TypeId} {fs:Array Field} {c:α->List PV} {B:α->Prop} {c':β->List PV} {B':β->Prop} (ht:P.underlying t=some (.struct fs)) (hF:DOpF P fs.toList 0 c B) (f:α->β) (hB:∀ a,B a->B' (f a)) (hc:∀ a,c' (f a)=c a:=by intro _;kernel_rfl) (hl:∀ b,(c' b).length=P.cellsOf t:=by intro _;kernel_rfl):DOp P t c' B':=by
 intro H enc w base held fuel cs x hx hw
 obtain⟨xs,m,rfl,rfl,hlen,hxs,hf⟩:=DataW.trod_struct ht hx
 have hw:∀ n∈DataW.weightsEach P (fs.toList.map (·.type)) (xs.map (·.1)),n<=reachBytes:=λn hn=>hw n (by simp only[DataW.weights,ht];exact hn)
 obtain⟨a,ha,hk⟩:=hF enc w base held m cs λg hg=>by
  obtain⟨i,hi⟩:=List.getElem?_of_mem hg
  rw[Array.getElem?_toList]at hi
  have hlt:i<xs.length:=by rw[hxs];exact(Array.getElem?_eq_some_iff.1 hi).1
  exact⟨_,(hf i g hi).trans (List.getElem?_eq_getElem hlt),λn hn=>hw n (DataW.weights_mem_each (j:=i) (t:=g.type) (d:=xs[i].1) (by simp[hi]) (by simp[hlt]) n hn)⟩
 refine⟨f a,hB a ha,by rw[hl,hlen],λi p v hp hv=>?_⟩
 rw[hc]at hp
 exact hk i p v hp (by rw[Nat.zero_add];exact hv)
theorem Ua {H:Type} {e:TypeId}:∀ {ds:List (DataW H)} {d:DataW H},d∈ds->∀ n∈d.weights P e,n∈DataW.weightsAll P e ds
 |d0::ds,d,h,n,hn=>by
  simp only[DataW.weightsAll,List.mem_append]
  rcases List.mem_cons.1 h with rfl|h
  ·exact .inl hn
  ·exact .inr (Ua h n hn)
theorem op_array {α β:Type} {t e:TypeId} {m:Nat} {c:α->List PV} {B:α->Prop} {c':β->List PV} {B':β->Prop} (ht:P.underlying t=some (.array m e)) (hF:DOpF P ((List.range m).map λi=>{ (default:Field)with type:=e,offset:=i*P.cellsOf e }) 0 c B) (f:α->β) (hB:∀ a,B a->B' (f a)) (hc:∀ a,c' (f a)=c a:=by intro _;kernel_rfl) (hl:∀ b,(c' b).length=P.cellsOf t:=by intro _;kernel_rfl):DOp P t c' B':=by
 intro H enc w base held fuel cs x hx hw
 obtain⟨xs,k,rfl,rfl,hlen,hxs,hf⟩:=DataW.trod_array ht hx
 have hw:∀ n∈DataW.weightsAll P e (xs.map (·.1)),n<=reachBytes:=λn hn=>hw n (by simp only[DataW.weights,ht];exact hn)
 obtain⟨a,ha,hk⟩:=hF enc w base held k cs λg hg=>by
  obtain⟨i,hi,rfl⟩:=List.mem_map.1 hg
  have hi:i<m:=by simpa using hi
  exact⟨_,(hf i hi).trans (List.getElem?_eq_getElem (by omega)),λn hn=>hw n (Ua (d:=(xs[i]'(by omega)).1) (List.mem_map.2 ⟨_,List.getElem_mem _,rfl⟩) n hn)⟩
 refine⟨f a,hB a ha,by rw[hl,hlen],λi p v hp hv=>?_⟩
 rw[hc]at hp
 exact hk i p v hp (by rw[Nat.zero_add];exact hv)
theorem op_choose {α:Type} {p:Nat->α->Prop}:∀ n,(∀ i,i<n->∃ a,p i a)->∃ l:List α,l.length=n/\∀ i (h:i<l.length),p i l[i]
 |0,_=>⟨[],rfl,by simp⟩
 |n+1,h=>by
  obtain⟨l,hl,hp⟩:=op_choose n λi hi=>h i (by omega)
  obtain⟨a,ha⟩:=h n (by omega)
  refine⟨l++[a],by simp[hl],λi hi=>?_⟩
  by_cases h1:i<l.length
  ·rw[List.getElem_append_left h1];exact hp i h1
  ·have:i=n:=by simp at hi;omega
   subst this
   rw[List.getElem_append_right (by omega)]
   simpa [hl] using ha
theorem op_add (b off i:Nat):(⟨b,off,none⟩:Addr).add i=⟨b,off+i,none⟩:=by unfold Addr.add;split<;>simp_all
theorem Yz {α:Type} {t e:TypeId} {c:α->List PV} {B:α->Prop} (k:Nat) (ht:P.underlying t=some (.slice e)) (he:DOp P e c B) (hk:Nat.ble (reachBytes / P.bytesOf e) k&&Nat.blt 0 (P.bytesOf e)&&Nat.ble k maxLen=true:=by kernel_rfl) (hl:∀ a,(c a).length=P.cellsOf e:=by intro _;kernel_rfl) (h0:Nat.blt 0 (P.cellsOf e)=true:=by kernel_rfl):
  DOp P t (λx:Sl α=>[eS (P.cellsOf e) c x]) (λx=>ln x<=k/\∀ y∈x.es,B y):=by
 have h0:0<P.cellsOf e:=Nat.le_of_ble_eq_true h0
 simp only[Bool.and_eq_true]at hk
 obtain⟨⟨hk1,hk2⟩,hk3⟩:=hk
 have hk1:=Nat.le_of_ble_eq_true hk1
 have hk2:0<P.bytesOf e:=Nat.le_of_ble_eq_true hk2
 intro H enc w base held fuel cs x h hw
 rcases Go.Deep.open_slice ht h with ⟨rfl,_⟩|⟨a,len,cap,m,n,D,Pl,rfl,_,hlc,hm,hmm,rfl,hi⟩
 ·exact⟨.nil,⟨by simp[ln,Sl.es],λy hy=>by simp[Sl.es]at hy⟩,.one (.nilsl _ _)⟩
 ·simp only[if_true]at hmm
  subst hmm
  have hw0:(len+(m-len))*P.bytesOf e<=reachBytes:=hw _ (by simp only[DataW.weights,ht,List.length_map,List.length_range];exact List.mem_cons_self ..)
  have hwA:∀ i,i<len->∀ n∈(D i).weights P e,n<=reachBytes:=λi hi' n hn=>hw n (by
   simp only[DataW.weights,ht]
   exact List.mem_cons_of_mem _ (List.mem_append_left _ (Ua (d:=D i) (List.mem_map.2 ⟨i,List.mem_range.2 hi',rfl⟩) n hn)))
  have hlk:len<=k:=Nat.le_trans ((Nat.le_div_iff_mul_le hk2).2 (Nat.le_trans (Nat.mul_le_mul_right _ (by omega)) hw0)) hk1
  clear hw hw0
  generalize P.cellsOf e=s at *
  by_cases hcap:m=0
  ·obtain rfl:len=0:=by omega
   subst hcap
   exact⟨.no [],⟨by simp[ln,Sl.es],λy hy=>by simp[Sl.es]at hy⟩,.one (.em _ _ a rfl)⟩
  ·obtain⟨b,off,rfl⟩:∃ b off,a=⟨b,off,none⟩:=by
    obtain⟨c0,hc0,_⟩:=hi 0 (by omega)
    obtain⟨_,h1,h2⟩:=World.cells?_some hc0
    have h3:=h2 0 h0
    rw[Nat.zero_mul]at h3
    have hv:c0[0]?=some (c0[0]'(by omega)):=List.getElem?_eq_getElem (by omega)
    rw[hv]at h3
    obtain⟨b,off,spot⟩:=a
    cases spot with
    |none=>exact⟨b,off,rfl⟩
    |some s=>simp[Addr.add,World.cell?]at h3;split at h3<;>simp_all
   obtain⟨l,hll,hp⟩:=op_choose (p:=λi a=>B a/\∀ (j:Nat) (p:PV),(c a)[j]?=some p->∃ v,w.cell? ⟨b,off+i*s+j,none⟩=some v/\RV (ghw w) p v) len (λi hi'=>by
    obtain⟨ci,hc,htr⟩:=hi i (by omega)
    obtain⟨a,ha,hla⟩:=he _ _ _ _ _ _ _ htr (hwA i hi')
    obtain⟨_,h1,h2⟩:=World.cells?_some hc
    refine⟨a,ha,λj p hp=>?_⟩
    have hj:j<s:=by rw[<-hl a];exact(List.getElem?_eq_some_iff.1 hp).1
    have h3:=h2 j hj
    rw[op_add,op_add]at h3
    have hv:ci[j]?=some (ci[j]'(by omega)):=List.getElem?_eq_getElem (by omega)
    exact⟨_,h3.trans hv,hla.2 j p _ hp hv⟩)
   have hlen:(l.map c).length=len:=by simp[hll]
   refine⟨.no l,⟨?_,λy hy=>?_⟩,.one ?_⟩
   ·show((l.length:Nat):Int)<=_
    rw[hll]
    omega
   ·obtain⟨i,hi'⟩:=List.getElem?_of_mem (show y∈l from hy)
    obtain⟨hlt,rfl⟩:=List.getElem?_eq_some_iff.1 hi'
    exact(hp i hlt).1
   ·show RV _ (.sl false .no s (l.map c)) _
    rw[<-hlen]
    refine .sl (λi j=>(w.cell? ⟨b,off+i*s+j,none⟩).getD (.bool true)) (by rw[hlen];exact hlc) hm (λi e he=>?_) (λi j e p he hp'=>?_) (λi j e p he hp'=>?_) trivial
    ·rw[List.getElem?_map]at he
     obtain⟨x,_,rfl⟩:=Option.map_eq_some_iff.1 he
     exact hl x
    all_goals
     rw[List.getElem?_map]at he
     obtain⟨x,hx,rfl⟩:=Option.map_eq_some_iff.1 he
     obtain⟨hlt,rfl⟩:=List.getElem?_eq_some_iff.1 hx
     obtain⟨v,h1,h2⟩:=(hp i hlt).2 j p hp'
    ·show w.cell? _=_
     rw[h1];rfl
    ·rw[h1];exact h2
theorem op_below {n:Nat} {g g':Gh} {w w':World} (h:Step n g w g' w') (h0:∀ b,g.O b=Option.none):Below w.heap.size w w':=
 ⟨h.os,h.tape,h.output,h.size,λb hb=>h.block b hb (h0 b)⟩
theorem call_of {f:FuncId} {args:List PV} {r:PV} {v:Value} {w:World} {vs:Array Value} (h:ACall P f args [] λq k=>q=r/\k=[]) (ha:LR (ghw w) args vs) (hr:∀ (g:Gh) u,RV g r u->u=v):Calls P f vs w λe w'=>e=.returned v/\Below w.heap.size w w':=
 (h.2 (ghw w) w vs (inv_ghw w) ha).mono λe w' ⟨u,q,H',g',he,⟨hq,_⟩,hS,_,_,hv⟩=>by
  subst hq
  exact⟨by rw[he,hr _ _ hv],op_below hS λ_=>rfl⟩
end Go.PE
