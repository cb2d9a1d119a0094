/- A part of the proof. -/
import Derived.Test.YtibndgdocbbbeaaGreatTT1
set_option linter.all false
namespace Go.PE
def OkSl {α:Type} (P:α->Prop) (n:Nat) (s:Sl α):Prop:=ln s<=n/\∀ x∈Sl.es s,P x
def OkB (s:ByteArray):Prop:=s.size<=1000
theorem OkSl.le {α:Type} {P:α->Prop} {n:Nat} {s:Sl α} (h:OkSl P n s):0<=ln s/\ln s<=n:=⟨Int.natCast_nonneg _,h.1⟩
theorem OkB.le {s:ByteArray} (h:OkB s):lns s<=1000:=by unfold lns;unfold OkB at h;omega
theorem OkSl.mono {α:Type} {P:α->Prop} {n m:Nat} {s:Sl α} (h:OkSl P n s) (hm:n<=m:=by decide):OkSl P m s:=⟨by have:=h.1;omega,h.2⟩
theorem OkSl.mk2 {α:Type} {P:α->Prop} {n m:Nat} {s:Sl α} (h:ln s<=m) (k:∀ x∈Sl.es s,P x) (hm:m<=n:=by decide):OkSl P n s:=⟨by omega,k⟩
theorem OkSl.nil {α:Type} {P:α->Prop} {n:Nat}:OkSl P n (Sl.nil:Sl α):=⟨by simp[ln,Sl.es],λx hx=>absurd hx (by simp[Sl.es])⟩
theorem OkSl.tr {α:Type} {n:Nat} {s:Sl α} (h:ln s<=n):OkSl (λ_=>True) n s:=⟨h,λ_ _=>trivial⟩
theorem Xi {α:Type} {P:α->Prop} {n:Nat} {s:Sl α} {i:Int} (h:OkSl P n s) (h0:0<=i) (h1:i<ln s):Tot (gx (Sl.es s) i) λy=>P y/\gx (Sl.es s) i=some y:=by
 obtain⟨y,e,hy,_⟩:=t_gx h0 h1
 exact⟨y,e,h.2 y hy,e⟩
theorem t_gxL {α:Type} {l:List α} {i:Int} (h0:0<=i) (h1:i<(l.length:Int)):Tot (gx l i) λy=>True/\gx l i=some y:=by
 obtain⟨y,e,hy,_⟩:=t_gx h0 h1
 exact⟨y,e,trivial,e⟩
theorem t_gappK {α:Type} {bytes:Nat} {l m:List α} (k:Nat) (hb:bytes<=128:=by decide) (hm:m.length=k:=by rfl) (h:l.length+k<=500000000000):Tot (gapp bytes l m) λq=>q.length<=l.length+k:=by
 refine(t_gapp (l:=l) (m:=m) (bytes:=bytes) ?_).mono λq hq=>by subst hq;simp[hm]
 rw[hm]
 exact Nat.le_trans (Nat.mul_le_mul h hb) (by decide)
theorem t_gappC {α:Type} {bytes:Nat} {s:Sl α} (h:ln s<=500000000000) (hb:bytes<=128:=by decide):Tot (gapp bytes [] (Sl.es s)) λq=>q=Sl.es s:=by
 simp only[ln]at h
 refine(t_gapp (l:=[]) (m:=Sl.es s) (bytes:=bytes) ?_).mono λq hq=>by simpa using hq
 exact Nat.le_trans (Nat.mul_le_mul (by simp;omega:([]:List α).length+(Sl.es s).length<=500000000000) hb) (by decide)
theorem OkSl.lit {α:Type} {n:Nat} {l:List α} (h:Nat.ble l.length n=true:=by rfl):OkSl (λ_=>True) n (Sl.full l):=⟨Int.ofNat_le.2 (Nat.le_of_ble_eq_true h),λ_ _=>trivial⟩
theorem t_gbyB {s:ByteArray} (h:OkB s):Tot (gby s) λx=>OkSl (λ_=>True) 1000 x:=(t_gby (by unfold OkB at h;omega)).mono λx hx=>.tr (by unfold OkB at h;simp only[ln];omega)
theorem mkSl_len {α:Type} {l:List α}:(Sl.es (mkSl l)).length=l.length:=by cases l<;>rfl
theorem ln_mk {α:Type} {l:List α}:ln (mkSl l)=l.length:=by simp only[ln,mkSl_len]
theorem ln_mkes {α:Type} {s:Sl α}:ln (mkSl (Sl.es s))=ln s:=ln_mk
theorem ln_no {α:Type} {l:List α}:ln (Sl.no l)=l.length:=rfl
theorem ln_full {α:Type} {l:List α}:ln (Sl.full l)=l.length:=rfl
theorem ln_nil {α:Type}:ln (Sl.nil:Sl α)=0:=rfl
theorem ln_nn {α:Type} {s:Sl α}:0<=ln s:=Int.natCast_nonneg _
theorem t_gch {s:ByteArray} {i:Int} (h0:0<=i) (h1:i<lns s):Tot (gch s i) λ_=>True:=by
 unfold gch
 rw[if_pos h0]
 have:i.toNat<s.size:=by unfold lns at h1;omega
 exact⟨s[i.toNat],getElem?_pos s i.toNat this,trivial⟩
theorem t_bd {α:Type} {p:Prop} [Decidable p] {a b:Option α} {Q:α->Prop} (h:p->Tot a Q) (k:¬p->Tot b Q):Tot (bif decide p then a else b) Q:=Xc (λc=>h (of_decide_eq_true c)) λc=>k (of_decide_eq_false c)
theorem t_be {α β:Type} [BEq β] [LawfulBEq β] {x y:β} {a b:Option α} {Q:α->Prop} (h:x=y->Tot a Q) (k:x≠y->Tot b Q):Tot (bif x==y then a else b) Q:=Xc (λc=>h (eq_of_beq c)) λc=>k (beq_eq_false_iff_ne.mp c)
theorem t_bn {α β:Type} [BEq β] [LawfulBEq β] {x y:β} {a b:Option α} {Q:α->Prop} (h:x≠y->Tot a Q) (k:x=y->Tot b Q):Tot (bif x !=y then a else b) Q:=Xc (λc=>h (by simpa using c)) λc=>k (by simpa using c)
theorem Ya {α:Type} {l:List α} {i:Int} {y:α} (h:gx l i=some y):0<=i/\i<l.length:=by
 unfold gx at h
 split at h
 ·have:=(List.getElem?_eq_some_iff.1 h).1
  omega
 ·cases h
theorem Wo {α:Type} {l:List α} {i:Int} {y:α} (h:gx l i=some y):y∈l:=by
 unfold gx at h
 split at h
 ·exact List.mem_of_getElem? h
 ·cases h
theorem gx_at {α:Type} {l:List α} {i:Int} (h0:0<=i) (h1:i<l.length):∃ y,gx l i=some y:=(t_gx h0 h1).imp λ_ h=>h.1
theorem Ws {σ τ:Type} {body:σ->Option (σ⊕τ)} {T:τ->Prop} {s:σ} {t:τ} (h:Xg body s=some t) (step:∀ s t,body s=some (.inr t)->T t):T t:=by
 unfold Xg at h
 generalize 18446744073709551616=n at h
 induction n generalizing s with
 |zero=>cases h
 |succ n ih=>
  rw[iterO]at h
  cases hb:body s with
  |none=>rw[hb]at h;cases h
  |some o=>
   rw[hb]at h
   cases o with
   |inl s'=>exact ih h
   |inr t'=>cases h;exact step s t hb
abbrev tru {α:Type}:α->Prop:=λ_=>True
theorem tI {p:Prop} (h:p:=by first|omega|assumption|(simp -failIfUnchanged only [ln_mk,ln_no,ln_full,ln_nil,lnl,lns,List.length_nil,List.length_cons]at *;first|omega|(rw[Xp (by omega) (by omega)];omega)|(refine⟨?_,?_⟩<;>(rw[Xp (by omega) (by omega)];omega)))):p:=h
theorem tB {p:Prop} (h:p:=by (try dsimp only);first|omega|exact tI):p:=h
theorem oq {α:Type} {o:Option α} {a:α} {p:α->Prop} (h:o=some a) (k:p a):∀ y,o=some y->p y:=λy g=>by cases h.symm.trans g;exact k
theorem t_bi {α β:Type} {x:Option α} {f:α->Option β} {R S:α->Prop} {Q:β->Prop} (h:Tot x λa=>R a/\S a) (k:∀ a,R a->S a->Tot (f a) Q):Tot (x.bind f) Q:=Xb h λa r=>k a r.1 r.2
theorem tL {p:Prop} (h:p:=by refine Xd ?_;(try dsimp only);repeat' (first|exact trivial|assumption|omega|exact OkSl.nil|(rw[ln_mkes];omega)|exact Int.le_refl _|(rw[Xp (by omega) (by omega)];done)|(simp only[ln_mk,ln_no,ln_full,ln_nil];omega)|(rw[mkSl_es];assumption)|(simp -failIfUnchanged only [ln_mk,ln_full,ln_nil,List.length_nil,List.length_cons];omega)|exact Yg (by assumption)|exact gm0|exact Nat.zero_le _|exact Nat.le_refl _|refine And.intro ?_ ?_)):p:=h
theorem tF {p:Prop} (h:p:=by intros;repeat' (first|exact trivial|assumption|omega|exact gm0|exact Yg (by assumption)|(show ByteArray.size _<=1000;decide)|intro _|refine And.intro ?_ ?_)):p:=h
theorem tM {p:Prop} (h:p:=by (try simp only[Sum.forall,Prod.forall,and_imp,true_and,and_true,implies_true,imp_self,List.length_nil,Nat.zero_add]);first|done|exact tF|(refine⟨?_,?_⟩<;>exact tF)|(refine⟨?_,?_,?_⟩<;>exact tF)):p:=h
theorem tW {p:Prop} (h:p:=by first|assumption|exact tI|(intro g;first|(cases g;done)|(replace g:=of_decide_eq_false g;exact tI)|exact tI)):p:=h
theorem tZ {p:Prop} (h:p:=by (try dsimp only);(try simp only[List.length_nil,List.length_replicate]);first|exact trivial|done|exact tF):p:=h
end Go.PE
