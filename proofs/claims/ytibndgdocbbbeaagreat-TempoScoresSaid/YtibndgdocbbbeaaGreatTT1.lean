/- A part of the proof. -/
import Derived.Test.YtibndgdocbbbeaaGreatSY9
import Derived.IntWalk
set_option linter.all false
namespace Go.PE
def Tot {α:Type} (x:Option α) (Q:α->Prop):Prop:=∃ a,x=some a/\Q a
theorem Tot.mono {α:Type} {x:Option α} {Q R:α->Prop} (h:Tot x Q) (k:∀ a,Q a->R a):Tot x R:=let ⟨a,e,q⟩:=h;⟨a,e,k a q⟩
theorem Xd {α:Type} {a:α} {Q:α->Prop} (h:Q a):Tot (some a) Q:=⟨a,rfl,h⟩
theorem Xb {α β:Type} {x:Option α} {f:α->Option β} {R:α->Prop} {Q:β->Prop} (h:Tot x R) (k:∀ a,R a->Tot (f a) Q):Tot (x.bind f) Q:=by
 obtain⟨a,rfl,r⟩:=h
 exact k a r
theorem Xc {α:Type} {c:Bool} {a b:Option α} {Q:α->Prop} (h:c=true->Tot a Q) (k:c=false->Tot b Q):Tot (bif c then a else b) Q:=by
 cases c with
 |true=>exact h rfl
 |false=>exact k rfl
theorem t_gx {α:Type} {l:List α} {i:Int} (h0:0<=i) (h1:i<l.length):Tot (gx l i) λy=>y∈l/\l[i.toNat]?=some y:=by
 have hi:i.toNat<l.length:=by omega
 refine⟨l[i.toNat],?_,List.getElem_mem hi,List.getElem?_eq_getElem hi⟩
 unfold gx
 rw[if_pos h0,List.getElem?_eq_getElem hi]
theorem t_gapp {α:Type} {bytes:Nat} {l m:List α} (h:(l.length+m.length)*bytes<=140737488355328):Tot (gapp bytes l m) λq=>q=l++m:=⟨l++m,by unfold gapp;rw[if_pos h],rfl⟩
theorem t_gby {s:ByteArray} (h:s.size<=1000000000):Tot (gby s) λx=>x.es.length=s.size:=by
 refine⟨_,by unfold gby;rw[if_pos h],?_⟩
 simp[Sl.es]
theorem t_gq {k:IntKind} {a b:Int} (h:b≠0):Tot (gq k a b) λq=>q=k.wrap (a.tdiv b):=⟨_,by unfold gq;rw[if_neg h],rfl⟩
theorem t_gr {a b:Int} (h:b≠0):Tot (gr a b) λq=>q=a.tmod b:=⟨_,by unfold gr;rw[if_neg h],rfl⟩
theorem t_gshl {k:IntKind} {a b:Int} (h:0<=b):Tot (gshl k a b) λq=>q=k.wrap (a*2^(min b.toNat k.bits)):=⟨_,by unfold gshl;rw[if_neg (by omega)],rfl⟩
theorem t_gshr {k:IntKind} {a b:Int} (h:0<=b):Tot (gshr k a b) λq=>q=a.fdiv (2^(min b.toNat k.bits)):=⟨_,by unfold gshr;rw[if_neg (by omega)],rfl⟩
theorem t_gslR {α:Type} {x:Sl α} {l h:Int} (h0:0<=l) (h1:l<=h) (h2:h<=x.es.length):Tot (gslR x l h) λy=>y.es=(x.es.take h.toNat).drop l.toNat:=by
 unfold gslR
 rw[if_pos ⟨h0,by omega,by omega,by omega⟩]
 cases x with
 |nil=>exact⟨_,rfl,by simp[Sl.es]⟩
 |no s=>exact⟨_,rfl,rfl⟩
 |full s=>
  by_cases hh:h.toNat=s.length
  ·exact⟨_,rfl,by rw[if_pos hh];rfl⟩
  ·exact⟨_,rfl,by rw[if_neg hh];rfl⟩
theorem t_gmc {bytes:Nat} {n:Int} (h0:0<=n) (h1:n<=1000000) (h2:bytes<=1000):Tot (gmc bytes n) λ_=>True:=by
 refine⟨(),?_,trivial⟩
 unfold gmc
 have:(bytes:Int)*n<=1000*1000000:=Int.mul_le_mul (by omega) h1 h0 (by omega)
 rw[if_pos ⟨h0,by omega,by omega⟩]
theorem t_gmk {bytes:Nat} {n:Int} (h0:0<n) (h1:n<=1000000) (h2:bytes<=1000):Tot (gmk bytes n) λm=>m=n.toNat:=by
 refine⟨_,?_,rfl⟩
 unfold gmk
 have:(bytes:Int)*n<=1000*1000000:=Int.mul_le_mul (by omega) h1 (by omega) (by omega)
 rw[if_pos ⟨h0,by omega,by omega⟩]
theorem t_gin {i:Int} {n:Nat} (h0:0<=i) (h1:i<n):Tot (gin i n) λ_=>True:=⟨(),by unfold gin;rw[if_pos ⟨h0,h1⟩],trivial⟩
theorem t_gset {α:Type} {l:List α} {i:Int} {x:α} (h0:0<=i) (h1:i<l.length):Tot (gset l i x) λq=>q=l.set i.toNat x/\q.length=l.length:=⟨_,by unfold gset;rw[if_pos ⟨h0,h1⟩],rfl,by simp⟩
theorem t_gfz {α:Type} {n:Nat} {l:List α} (h:l.length=n):Tot (gfz n l) λ_=>True:=⟨(),by unfold gfz;rw[if_pos h],trivial⟩
def GM.ok {K V:Type} (m:GM K V):Prop:=m.ks.length=m.vs.length
theorem gm0 {K V:Type}:GM.ok (⟨[],[],0⟩:GM K V):=rfl
theorem gfind_lt {K:Type} {eq:K->K->Bool} {k:K}:∀ {l:List (K×Nat)} {i j:Nat},gfind eq k l i=some j->i<=j/\j<i+l.length
 |[],_,_,h=>by cases h
 |e::es,i,j,h=>by
  simp only[gfind]at h
  cases he:eq k e.1 with
  |true=>rw[he]at h;cases h;simp
  |false=>rw[he]at h;have:=gfind_lt (l:=es) h;simp;omega
theorem t_gmGet {K V:Type} {eq:K->K->Bool} {m:GM K V} {k:K} {z:V} (h:m.ok):Tot (gmGet eq m k z) λ_=>True:=by
 unfold gmGet
 split
 ·rename_i i hi
  have:=(gfind_lt hi).2
  unfold GM.ok at h
  exact⟨_,List.getElem?_eq_getElem (by omega),trivial⟩
 ·exact⟨_,rfl,trivial⟩
theorem Yg {K V:Type} {eq:K->K->Bool} {m:GM K V} {k:K} {v:V} (h:m.ok):(gmPut eq m k v).ok:=by
 unfold gmPut
 split
 ·unfold GM.ok at *;simpa using h
 ·unfold GM.ok at *;simp[h]
theorem Xp {n:Int} (h0:-9223372036854775808<=n) (h1:n<=9223372036854775807):wi n=n:=by
 exact IntWalk.i64_in _ (by omega)
theorem Xe {σ τ:Type} {body:σ->Option (σ⊕τ)} (idx:σ->Int) (n:Nat) (hn:n<=1000000) (I:σ->Prop) {T:τ->Prop} {s:σ} (h0:0<=idx s) (h1:idx s<=n) (hI:I s)
  (step:∀ s,I s->0<=idx s->idx s<=n->Tot (body s) λr=>match r with
   |.inl s'=>I s'/\idx s'=idx s+1/\idx s<n
   |.inr t=>T t):Tot (Xg body s) T:=by
 refine Xs (λs=>I s/\0<=idx s/\idx s<=n) (λs=>((n:Int)-idx s).toNat) T (λs hs=>?_) ⟨hI,h0,h1⟩ (by omega)
 obtain⟨r,hr,hq⟩:=step s hs.1 hs.2.1 hs.2.2
 cases r with
 |inl s'=>exact .inl ⟨s',hr,⟨hq.1,by omega,by omega⟩,by omega⟩
 |inr t=>exact .inr ⟨t,hr,hq⟩
end Go.PE
