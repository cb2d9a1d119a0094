/- A part of the proof. -/
import Derived.Test.YtibndgdocbbbeaaGreatPE10
set_option linter.all false
namespace Go.PE
open Go.RowKit
section
variable {P:Program} {g:Gh} {H:List Blk} {w:World}
theorem Yr {a v:Value} (h:RV g (.sc a) v):v=a/\plainV a=true:=by cases h with|sc h=>exact⟨rfl,h⟩
theorem binV_plain {op:BinOp} {a b v:Value} (h:binV op a b=some v):plainV v=true:=by
 cases a<;>cases b<;>simp only[binV]at h<;>try (cases h;done)
 all_goals (cases op<;>simp at h<;>first|(obtain⟨_,rfl⟩:=h;rfl)|(obtain⟨_,_,rfl⟩:=h;rfl)|(subst h;rfl))
theorem binV_sound {op:BinOp} {a b v:Value} (h:binV op a b=some v) (t:TypeId) (X Y:Operand):(do eqGuard op t X Y a b;binOp op t a b:Sem Value).run P w=.ok v w:=by
 cases a<;>cases b<;>simp only[binV]at h<;>try (cases h;done)
 ·rename_i k a k' b
  cases op<;>simp only[ne_eq,ite_not,Option.ite_none_right_eq_some,Option.ite_none_left_eq_some,Option.some.injEq]at h
  case add=>obtain⟨rfl,rfl⟩:=h;simp[eqGuard,binOp,Op.intArith]
  case sub=>obtain⟨rfl,rfl⟩:=h;simp[eqGuard,binOp,Op.intArith]
  case mul=>obtain⟨rfl,rfl⟩:=h;simp[eqGuard,binOp,Op.intArith]
  case quo=>obtain⟨rfl,h0,rfl⟩:=h;simp[eqGuard,binOp,Op.intDiv,h0]
  case rem=>obtain⟨rfl,h0,rfl⟩:=h;simp[eqGuard,binOp,Op.intDiv,h0]
  case and=>obtain⟨rfl,rfl⟩:=h;simp[eqGuard,binOp,Op.intBits]
  case or=>obtain⟨rfl,rfl⟩:=h;simp[eqGuard,binOp,Op.intBits]
  case xor=>obtain⟨rfl,rfl⟩:=h;simp[eqGuard,binOp,Op.intBits]
  case andNot=>obtain⟨rfl,rfl⟩:=h;simp[eqGuard,binOp,Op.intBits]
  case shl=>obtain⟨h0,rfl⟩:=h;simp[eqGuard,binOp,Op.shift,h0]
  case shr=>obtain⟨h0,rfl⟩:=h;simp[eqGuard,binOp,Op.shift,h0]
  case eql=>obtain⟨rfl,rfl⟩:=h;simp[eqGuard,binOp,Op.intCmp]
  case neq=>obtain⟨rfl,rfl⟩:=h;simp[eqGuard,binOp,Op.intCmp]
  case lss=>obtain⟨rfl,rfl⟩:=h;simp[eqGuard,binOp,Op.intCmp]
  case leq=>obtain⟨rfl,rfl⟩:=h;simp[eqGuard,binOp,Op.intCmp]
  case gtr=>obtain⟨rfl,rfl⟩:=h;simp[eqGuard,binOp,Op.intCmp]
  case geq=>obtain⟨rfl,rfl⟩:=h;simp[eqGuard,binOp,Op.intCmp]
 ·rename_i a b
  have hmax:IntKind.i64.max=9223372036854775807:=by decide
  cases op<;>simp only[Option.ite_none_left_eq_some,Option.some.injEq,reduceCtorEq]at h
  case add=>obtain⟨h0,rfl⟩:=h;simp[eqGuard,binOp,Op.stringOp,hmax];omega
  all_goals (subst h;simp[eqGuard,binOp,Op.stringOp])
theorem Zk (t:TypeId) (x y:Value):Op.equal t x y=Op.equalIn (9999+1) t x y:=rfl
theorem out_eqB {op:BinOp} {t:TypeId} (hop:op=.eql\/op=.neq) (ht:P.underlying t=some .bool) {a b:Bool} {X Y:Operand}:(do eqGuard op t X Y (.bool a) (.bool b);binOp op t (.bool a) (.bool b):Sem Value).run P w=.ok (.bool (if op==.neq then !(a==b)else a==b)) w:=by
 have he:=Vj (P:=P) 1 (9999+1) (by omega) t [.b] (by simp[Yc,ht]) (.bool a) (.bool b) [.bool a] [.bool b] (a==b) (by simp[Flat,ht]) (by simp[Flat,ht]) (by simp[Xt,eqK]) w
 rw[<-Zk]at he
 rcases hop with rfl|rfl
 ·simp[eqGuard,binOp,he]
 ·simp[eqGuard,binOp,he]
theorem out_eqC {op:BinOp} {t:TypeId} {ks:List Knd} {fs:Array Field} (hop:op=.eql\/op=.neq) (ht:P.underlying t=some (.struct fs)) (hgd:P.eqGuardType P.depth t=false) (hk:Yc P 20 t=some ks) {a b:List PV} {x y:Value} (hx:RV g (.agg a) x) (hy:RV g (.agg b) y) {r:Bool} (hr:eqCells ks a b=some r) {X Y:Operand}:
  (do eqGuard op t X Y x y;binOp op t x y:Sem Value).run P w=.ok (.bool (if op==.neq then !r else r)) w:=by
 cases hx with
 |agg h1 h2=>
  cases hy with
  |agg h3 h4=>
   rename_i xs ys
   have hv:=eqCells_vals (g:=g) hr (xs:=xs.toList) (ys:=ys.toList) (by simpa using⟨h1,h2⟩) (by simpa using⟨h3,h4⟩)
   have he:=Vj (P:=P) 20 (9999+1) (by omega) t ks hk (.agg xs) (.agg ys) xs.toList ys.toList r (by simp[Flat,ht]) (by simp[Flat,ht]) hv w
   rw[<-Zk]at he
   rcases hop with rfl|rfl
   ·simp[eqGuard,binOp,hgd,he]
   ·simp[eqGuard,binOp,hgd,he]
theorem out_eqA {op:BinOp} {t e:TypeId} {n:Nat} {k:IntKind} {i:TypeInfo} (hop:op=.eql\/op=.neq) (ht:P.underlying t=some (.array n e)) (hgd:P.eqGuardType P.depth t=false) (he:P.underlying e=some (.int k)) (hi:P.info? e=some i) (h1:i.size=1) {a b:List PV} {x y:Value} (hx:RV g (.agg a) x) (hy:RV g (.agg b) y) {r:Bool} (hr:eqCells (List.replicate n .i) a b=some r) {X Y:Operand}:
  (do eqGuard op t X Y x y;binOp op t x y:Sem Value).run P w=.ok (.bool (if op==.neq then !r else r)) w:=by
 cases hx with
 |agg h1' h2=>
  cases hy with
  |agg h3 h4=>
   rename_i xs ys
   have hv:=eqCells_vals (g:=g) hr (xs:=xs.toList) (ys:=ys.toList) (by simpa using⟨h1',h2⟩) (by simpa using⟨h3,h4⟩)
   have he:=equal_array (P:=P) (D:=9998) ht he hi h1 xs ys r hv w
   rw[<-Zk]at he
   rcases hop with rfl|rfl
   ·simp[eqGuard,binOp,hgd,he]
   ·simp[eqGuard,binOp,hgd,he]
def srtOf:TypeDesc->Option Srt
 |.slice _=>some .sl
 |.pointer _=>some .pt
 |.func _ _ _=>some .fn
 |.map _ _=>some .mp
 |_=>none
theorem nil_sl {p:PV} {x:Value} {b:Bool} (h:RV g p x) (hb:Zi .sl p=some b):∃ a n c,x=.slice a n c/\a.isNone=b:=by
 cases h with
 |nilsl=>simp[Zi]at hb;subst hb;exact⟨_,_,_,rfl,rfl⟩
 |sl=>simp[Zi]at hb;subst hb;exact⟨_,_,_,rfl,rfl⟩
 |em=>simp[Zi]at hb;subst hb;exact⟨_,_,_,rfl,rfl⟩
 |bs=>simp[Zi]at hb;subst hb;exact⟨_,_,_,rfl,rfl⟩
 |_=>simp[Zi]at hb
theorem nil_pt {p:PV} {x:Value} {b:Bool} (h:RV g p x) (hb:Zi .pt p=some b):∃ a,x=.pointer a/\a.isNone=b:=by
 cases h with
 |sc hv=>
  cases x with
  |pointer o=>cases o<;>simp[Zi]at hb;subst hb;exact⟨_,rfl,rfl⟩
  |_=>simp[Zi]at hb
 |ip=>simp[Zi]at hb;subst hb;exact⟨_,rfl,rfl⟩
 |bp=>simp[Zi]at hb;subst hb;exact⟨_,rfl,rfl⟩
 |_=>simp[Zi]at hb
theorem nil_fn {p:PV} {x:Value} {b:Bool} (h:RV g p x) (hb:Zi .fn p=some b):(x=.nilFunc/\b=true)\/∃ f u v,x=.func f u v/\b=false:=by
 cases h with
 |sc hv=>
  cases x with
  |nilFunc=>simp[Zi]at hb;subst hb;exact .inl ⟨rfl,rfl⟩
  |_=>simp[Zi]at hb
 |fn=>simp[Zi]at hb;subst hb;exact .inr ⟨_,_,_,rfl,rfl⟩
 |_=>simp[Zi]at hb
theorem nil_mp {p:PV} {x:Value} {b:Bool} (h:RV g p x) (hb:Zi .mp p=some b):∃ a,x=.map a/\a.isNone=b:=by
 cases h with
 |sc hv=>
  cases x with
  |map o=>cases o<;>simp[Zi]at hb;subst hb;exact⟨_,rfl,rfl⟩
  |_=>simp[Zi]at hb
 |mp=>simp[Zi]at hb;subst hb;exact⟨_,rfl,rfl⟩
 |_=>simp[Zi]at hb
theorem nilEq_inv {k:Srt} {p q:PV} {r:Bool} (h:nilEq k p q=some r):∃ a b,Zi k p=some a/\Zi k q=some b/\(a=true/\r=b\/a=false/\b=true/\r=false):=by
 unfold nilEq at h
 split at h
 ·rename_i b h1 h2;cases h;exact⟨_,_,h1,h2,.inl ⟨rfl,rfl⟩⟩
 ·rename_i h1 h2;cases h;exact⟨_,_,h1,h2,.inr ⟨rfl,rfl,rfl⟩⟩
 ·cases h
theorem binOp_eq {op:BinOp} (hop:op=.eql\/op=.neq) {t:TypeId} {x y:Value} {r:Bool} (hx:(∃ a n c,x=.slice a n c)\/(∃ a,x=.pointer a)\/x=.nilFunc\/(∃ a b c,x=.func a b c)\/∃ a,x=.map a) (hy:(∃ a n c,y=.slice a n c)\/(∃ a,y=.pointer a)\/y=.nilFunc\/(∃ a b c,y=.func a b c)\/∃ a,y=.map a) (he:(Op.equal t x y).run P w=.ok r w) {X Y:Operand}:
  (do eqGuard op t X Y x y;binOp op t x y:Sem Value).run P w=.ok (.bool (if op==.neq then !r else r)) w:=by
 rcases hop with rfl|rfl<;>rcases hx with ⟨_,_,_,rfl⟩|⟨_,rfl⟩|rfl|⟨_,_,_,rfl⟩|⟨_,rfl⟩<;>rcases hy with ⟨_,_,_,rfl⟩|⟨_,rfl⟩|rfl|⟨_,_,_,rfl⟩|⟨_,rfl⟩<;>simp[eqGuard,binOp,he]
theorem out_eqN {op:BinOp} {t:TypeId} (hop:op=.eql\/op=.neq) {d:TypeDesc} {k:Srt} (ht:P.underlying t=some d) (hd:srtOf d=some k) {p q:PV} {x y:Value} (hx:RV g p x) (hy:RV g q y) {r:Bool} (hr:nilEq k p q=some r) {X Y:Operand}:
  (do eqGuard op t X Y x y;binOp op t x y:Sem Value).run P w=.ok (.bool (if op==.neq then !r else r)) w:=by
 obtain⟨a,b,h1,h2,h3⟩:=nilEq_inv hr
 cases d<;>simp[srtOf]at hd<;>subst hd
 case pointer e=>
  obtain⟨u,rfl,hu⟩:=nil_pt hx h1
  obtain⟨v,rfl,hv⟩:=nil_pt hy h2
  refine binOp_eq hop (.inr (.inl ⟨_,rfl⟩)) (.inr (.inl ⟨_,rfl⟩)) ?_
  rw[Zk];unfold Op.equalIn
  rw[Sem.run_bind,run_underlying ht]
  rcases h3 with ⟨rfl,rfl⟩|⟨rfl,rfl,rfl⟩
  ·cases u<;>simp at hu;simp[hv]
  ·cases u<;>simp at hu;cases v<;>simp at hv;simp
 case slice e=>
  obtain⟨u,n,c,rfl,hu⟩:=nil_sl hx h1
  obtain⟨v,n',c',rfl,hv⟩:=nil_sl hy h2
  refine binOp_eq hop (.inl ⟨_,_,_,rfl⟩) (.inl ⟨_,_,_,rfl⟩) ?_
  rw[Zk];unfold Op.equalIn
  rw[Sem.run_bind,run_underlying ht]
  rcases h3 with ⟨rfl,rfl⟩|⟨rfl,rfl,rfl⟩
  ·cases u<;>simp at hu;simp[hv]
  ·cases u<;>simp at hu;cases v<;>simp at hv;simp
 case map e e'=>
  obtain⟨u,rfl,hu⟩:=nil_mp hx h1
  obtain⟨v,rfl,hv⟩:=nil_mp hy h2
  refine binOp_eq hop (.inr (.inr (.inr (.inr ⟨_,rfl⟩)))) (.inr (.inr (.inr (.inr ⟨_,rfl⟩)))) ?_
  rw[Zk];unfold Op.equalIn
  rw[Sem.run_bind,run_underlying ht]
  rcases h3 with ⟨rfl,rfl⟩|⟨rfl,rfl,rfl⟩
  ·cases u<;>simp at hu;simp[hv]
  ·cases u<;>simp at hu;cases v<;>simp at hv;simp
 case func e e' e''=>
  rcases nil_fn hx h1 with ⟨rfl,rfl⟩|⟨_,_,_,rfl,rfl⟩<;>rcases nil_fn hy h2 with ⟨rfl,rfl⟩|⟨_,_,_,rfl,rfl⟩<;>simp at h3<;>subst h3
  ·refine binOp_eq hop (.inr (.inr (.inl rfl))) (.inr (.inr (.inl rfl))) ?_
   rw[Zk];unfold Op.equalIn
   rw[Sem.run_bind,run_underlying ht];simp
  ·refine binOp_eq hop (.inr (.inr (.inl rfl))) (.inr (.inr (.inr (.inl ⟨_,_,_,rfl⟩)))) ?_
   rw[Zk];unfold Op.equalIn
   rw[Sem.run_bind,run_underlying ht];simp
  ·refine binOp_eq hop (.inr (.inr (.inr (.inl ⟨_,_,_,rfl⟩)))) (.inr (.inr (.inl rfl))) ?_
   rw[Zk];unfold Op.equalIn
   rw[Sem.run_bind,run_underlying ht];simp
theorem out_un {op:UnOp} {a v:Value} (h:unV op a=some v):(Op.unary op a).run P w=.ok v w/\plainV v=true:=by
 cases a<;>simp only[unV]at h<;>try (cases h;done)
 ·cases op<;>simp at h;subst h;simp[Op.unary];rfl
 ·cases op<;>simp at h;subst h;simp[Op.unary,Op.intArith];rfl
theorem out_len {t:TypeId} {p:PV} {v:Value} (h:RV g p v) {n:Nat}
  (hp:(∃ s,p=.sc (.string s)/\P.underlying t=some .string/\n=s.size)\/(∃ nl r s es,p=.sl nl r s es/\(∃ e,P.underlying t=some (.slice e))/\n=es.length)\/(∃ k off s full,p=.bs k off n s full/\∃ e,P.underlying t=some (.slice e))\/(∃ j s,p=.ts j n s/\∃ e,P.underlying t=some (.slice e))) {ty:TypeId}:(Builtin.len_ #[t] ty #[v]).run P w=.ok (.int .i64 n) w:=by
 rcases hp with ⟨s,rfl,hu,rfl⟩|⟨nl,r,s,es,rfl,⟨e,hu⟩,rfl⟩|⟨k,off,s,full,rfl,e,hu⟩|⟨j,s,rfl,e,hu⟩
 ·obtain⟨rfl,_⟩:=Yr h
  simp[Builtin.len_,run_underlying hu,goInt]
 ·cases h with
  |nilsl=>simp[Builtin.len_,run_underlying hu,goInt]
  |sl=>simp[Builtin.len_,run_underlying hu,goInt]
  |em=>simp[Builtin.len_,run_underlying hu,goInt]
 ·cases h with
  |bs=>simp[Builtin.len_,run_underlying hu,goInt]
 ·cases h with
  |tsn h=>subst h;simp[Builtin.len_,run_underlying hu,goInt]
  |ts=>simp[Builtin.len_,run_underlying hu,goInt]
end
end Go.PE
