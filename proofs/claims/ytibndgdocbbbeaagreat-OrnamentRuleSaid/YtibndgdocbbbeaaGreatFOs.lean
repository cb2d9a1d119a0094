/- A part of the proof. -/
import Derived.Test.YtibndgdocbbbeaaGreatOP3
import Derived.Test.YtibndgdocbbbeaaGreatFT
import Derived.Test.YtibndgdocbbbeaaGreatProg
import Derived.Test.YtibndgdocbbbeaaGreatTTa
set_option linter.all false
namespace Go.Proofs.YtibndgdocbbbeaaGreat
open Go.PE Go.RowKit
set_option maxRecDepth 100000
def bS {α:Type} (k:Nat) (B:α->Prop) (x:Sl α):Prop:=ln x<=k/\∀ y∈x.es,B y
theorem op58:DOp Tryz.prog 58 c58 (λ_=>True):=Xw Tryz.underlying58 (Xe (Xs Tryz.underlying3) (Xe (Xs Tryz.underlying3) Ym)) (λp=>(⟨p.1,p.2.1⟩:G58)) (λ_ _=>trivial)
theorem op65:DOp Tryz.prog 65 c65 (λ_=>True):=Xw Tryz.underlying65 (Xe (Xs Tryz.underlying3) (Xe (Xs Tryz.underlying3) Ym)) (λp=>(⟨p.1,p.2.1⟩:G65)) (λ_ _=>trivial)
theorem op184:DOp Tryz.prog 184 c184 (λ_=>True):=Xw Tryz.underlying184 (Xe op58 (Xe (Xs Tryz.underlying3) Ym)) (λp=>(⟨p.1,p.2.1⟩:G184)) (λ_ _=>trivial)
structure big68 (x:G68):Prop where
 fav:x.fav.size<=maxLen
 ft:bS 5864062014634 (λ_=>True) x.ft
theorem op68:DOp Tryz.prog 68 c68 big68:=Xw Tryz.underlying68 (Xe op58 (Xe (op_str Tryz.underlying9) (Xe op65 (Xe (Yu 5864062014634 Tryz.underlying66 op184) Ym)))) (λp=>(⟨p.1,p.2.1,p.2.2.1,p.2.2.2.1⟩:G68)) (λp h=>⟨h.2.1,⟨h.2.2.2.1.1,λ_ _=>trivial⟩⟩)
theorem op69:DOp Tryz.prog 69 c69 (λ_=>True):=op_array Tryz.underlying69 (Xe (Xs Tryz.underlying3) (Xe (Xs Tryz.underlying3) (Xe (Xs Tryz.underlying3) (Xe (Xs Tryz.underlying3) (Xe (Xs Tryz.underlying3) (Xe (Xs Tryz.underlying3) Ym)))))) (λp=>(⟨p.1,p.2.1,p.2.2.1,p.2.2.2.1,p.2.2.2.2.1,p.2.2.2.2.2.1⟩:G69)) (λ_ _=>trivial)
theorem op71:DOp Tryz.prog 71 c71 (λ_=>True):=Xw Tryz.underlying71 (Xe (Xs Tryz.underlying3) (Xe (Xs Tryz.underlying3) (Xe op69 Ym))) (λp=>(⟨p.1,p.2.1,p.2.2.1⟩:G71)) (λ_ _=>trivial)
theorem op111:DOp Tryz.prog 111 c111 (λ_=>True):=Xw Tryz.underlying111 (Xe (Xs Tryz.underlying3) (Xe (Xs Tryz.underlying3) (Xe (op_bool Tryz.underlying4) Ym))) (λp=>(⟨p.1,p.2.1,p.2.2.1⟩:G111)) (λ_ _=>trivial)
theorem op230:DOp Tryz.prog 230 c230 (λ_=>True):=Xw Tryz.underlying230 (Xe (Xs Tryz.underlying3) (Xe (Xs Tryz.underlying3) Ym)) (λp=>(⟨p.1,p.2.1⟩:G230)) (λ_ _=>trivial)
theorem op142:DOp Tryz.prog 142 c142 (λ_=>True):=Xw Tryz.underlying142 (Xe (Xs Tryz.underlying3) (Xe (Xs Tryz.underlying3) Ym)) (λp=>(⟨p.1,p.2.1⟩:G142)) (λ_ _=>trivial)
theorem op80:DOp Tryz.prog 80 c80 (λ_=>True):=Xw Tryz.underlying80 (Xe (Xs Tryz.underlying3) (Xe (Xs Tryz.underlying3) (Xe (Xs Tryz.underlying3) Ym))) (λp=>(⟨p.1,p.2.1,p.2.2.1⟩:G80)) (λ_ _=>trivial)
theorem op182:DOp Tryz.prog 182 c182 (λ_=>True):=Xw Tryz.underlying182 (Xe op80 (Xe (op_bool Tryz.underlying4) (Xe (Xs Tryz.underlying3) Ym))) (λp=>(⟨p.1,p.2.1,p.2.2.1⟩:G182)) (λ_ _=>trivial)
theorem op245:DOp Tryz.prog 245 c245 (λ_=>True):=Xw Tryz.underlying245 (Xe op80 (Xe (Xs Tryz.underlying3) (Xe (op_bool Tryz.underlying4) Ym))) (λp=>(⟨p.1,p.2.1,p.2.2.1⟩:G245)) (λ_ _=>trivial)
structure big171 (x:G171):Prop where
 fD:x.fD.size<=maxLen
theorem op171:DOp Tryz.prog 171 c171 big171:=Xw Tryz.underlying171 (Xe (op_str Tryz.underlying9) (Xe (Xs Tryz.underlying3) Ym)) (λp=>(⟨p.1,p.2.1⟩:G171)) (λp h=>⟨h.1⟩)
structure big147 (x:G147):Prop where
 fp:bS 3518437208780 (λ_=>True) x.fp
 fA:bS 3518437208780 (λ_=>True) x.fA
 fq:bS 5864062014634 big171 x.fq
theorem op147:DOp Tryz.prog 147 c147 big147:=Xw Tryz.underlying147 (Xe op58 (Xe (Xs Tryz.underlying3) (Xe op142 (Xe (Yu 3518437208780 Tryz.underlying143 op182) (Xe (Yu 3518437208780 Tryz.underlying144 op245) (Xe (Xs Tryz.underlying3) (Xe (Xs Tryz.underlying3) (Xe (Xs Tryz.underlying3) (Xe (Yu 5864062014634 Tryz.underlying145 op171) (Xe (Xs Tryz.underlying3) (Xe (Xs Tryz.underlying3) Ym))))))))))) (λp=>(⟨p.1,p.2.1,p.2.2.1,p.2.2.2.1,p.2.2.2.2.1,p.2.2.2.2.2.1,p.2.2.2.2.2.2.1,p.2.2.2.2.2.2.2.1,p.2.2.2.2.2.2.2.2.1,p.2.2.2.2.2.2.2.2.2.1,p.2.2.2.2.2.2.2.2.2.2.1⟩:G147)) (λp h=>⟨⟨h.2.2.2.1.1,λ_ _=>trivial⟩,⟨h.2.2.2.2.1.1,λ_ _=>trivial⟩,h.2.2.2.2.2.2.2.2.1⟩)
theorem op425:DOp Tryz.prog 425 c425 (λ_=>True):=Xw Tryz.underlying425 (Xe (Xs Tryz.underlying3) (Xe (Xs Tryz.underlying3) (Xe (Xs Tryz.underlying3) (Xe (Xs Tryz.underlying3) Ym)))) (λp=>(⟨p.1,p.2.1,p.2.2.1,p.2.2.2.1⟩:G425)) (λ_ _=>trivial)
structure big100 (x:G100):Prop where
 fg:bS 925904528626 big147 x.fg
 fX:bS 4398046510976 (λ_=>True) x.fX
theorem op100:DOp Tryz.prog 100 c100 big100:=Xw Tryz.underlying100 (Xe (Yu 925904528626 Tryz.underlying97 op147) (Xe (Yu 4398046510976 Tryz.underlying98 op425) Ym)) (λp=>(⟨p.1,p.2.1⟩:G100)) (λp h=>⟨h.1,⟨h.2.1.1,λ_ _=>trivial⟩⟩)
structure big95 (x:G95):Prop where
 fU:bS 8796093021952 (λ_=>True) x.fU
 ff:bS 2932031007317 big100 x.ff
theorem op95:DOp Tryz.prog 95 c95 big95:=Xw Tryz.underlying95 (Xe (Yu 8796093021952 Tryz.underlying92 op230) (Xe (Yu 2932031007317 Tryz.underlying93 op100) Ym)) (λp=>(⟨p.1,p.2.1⟩:G95)) (λp h=>⟨⟨h.1.1,λ_ _=>trivial⟩,h.2.1⟩)
structure big75 (x:G75):Prop where
 fu:x.fu<=9223372036854775807
 fG:x.fG.size<=maxLen
 fv:bS 5864062014634 (λ_=>True) x.fv
 fe:bS 2932031007317 big95 x.fe
theorem op75:DOp Tryz.prog 75 c75 big75:=Xw Tryz.underlying75 (Xe op58 (Xe op71 (Xe (Xs Tryz.underlying3) (Xe (Xs Tryz.underlying3) (Xe (op_bool Tryz.underlying4) (Xe (Xs Tryz.underlying3) (Xe (Xs Tryz.underlying3) (Xe (Xs Tryz.underlying3) (Xe (Xs Tryz.underlying3) (Xe (Xs Tryz.underlying3) (Xe (Xs Tryz.underlying3) (Xe (op_str Tryz.underlying9) (Xe (Yu 5864062014634 Tryz.underlying72 op111) (Xe (Yu 2932031007317 Tryz.underlying73 op95) Ym)))))))))))))) (λp=>(⟨p.1,p.2.1,p.2.2.1,p.2.2.2.1,p.2.2.2.2.1,p.2.2.2.2.2.1,p.2.2.2.2.2.2.1,p.2.2.2.2.2.2.2.1,p.2.2.2.2.2.2.2.2.1,p.2.2.2.2.2.2.2.2.2.1,p.2.2.2.2.2.2.2.2.2.2.1,p.2.2.2.2.2.2.2.2.2.2.2.1,p.2.2.2.2.2.2.2.2.2.2.2.2.1,p.2.2.2.2.2.2.2.2.2.2.2.2.2.1⟩:G75)) (λp h=>⟨h.2.2.2.2.2.1.2,h.2.2.2.2.2.2.2.2.2.2.2.1,⟨h.2.2.2.2.2.2.2.2.2.2.2.2.1.1,λ_ _=>trivial⟩,h.2.2.2.2.2.2.2.2.2.2.2.2.2.1⟩)
theorem op213:DOp Tryz.prog 213 c213 (λ_=>True):=Xw Tryz.underlying213 (Xe op58 (Xe (Xs Tryz.underlying3) (Xe op58 (Xe op58 Ym)))) (λp=>(⟨p.1,p.2.1,p.2.2.1,p.2.2.2.1⟩:G213)) (λ_ _=>trivial)
structure big27 (x:G27):Prop where
 faz:x.faz.size<=maxLen
 fh:bS 1954687338211 big68 x.fh
 fc:bS 651562446070 big75 x.fc
 fi:bS 2513169434843 (λ_=>True) x.fi
 fJ:bS 8796093021952 (λ_=>True) x.fJ
theorem op27:DOp Tryz.prog 27 c27 big27:=Xw Tryz.underlying27 (Xe (op_str Tryz.underlying9) (Xe (op_bool Tryz.underlying4) (Xe (Yu 1954687338211 Tryz.underlying22 op68) (Xe (Yu 651562446070 Tryz.underlying23 op75) (Xe (Yu 2513169434843 Tryz.underlying24 op213) (Xe (Yu 8796093021952 Tryz.underlying25 op58) Ym)))))) (λp=>(⟨p.1,p.2.1,p.2.2.1,p.2.2.2.1,p.2.2.2.2.1,p.2.2.2.2.2.1⟩:G27)) (λp h=>⟨h.1,h.2.2.1,h.2.2.2.1,⟨h.2.2.2.2.1.1,λ_ _=>trivial⟩,⟨h.2.2.2.2.2.1.1,λ_ _=>trivial⟩⟩)
end Go.Proofs.YtibndgdocbbbeaaGreat
namespace Go.Proofs.YtibndgdocbbbeaaGreat
open Go.PE Go.RowKit
set_option maxRecDepth 100000
set_option maxHeartbeats 4000000
theorem t_cnt {σ τ:Type} {body:σ->Option (σ⊕τ)} (idx:σ->Int) (n:Int) (hn:n<=maxLen) (I:σ->Prop) {T:τ->Prop} {s:σ} (h0:0<=idx s) (h1:idx s<=n) (hI:I s)
  (step:∀ s,I s->0<=idx s->idx s<=n->Tot (body s) λr=>match r with
   |.inl s'=>I s'/\idx s'=idx s+1/\idx s<n
   |.inr t=>T t):Tot (Xj body s) T:=by
 unfold maxLen at hn
 refine Zi (λs=>I s/\0<=idx s/\idx s<=n) (λs=>(n-idx s).toNat) T (λs hs=>?_) ⟨hI,h0,h1⟩ (by omega)
 obtain⟨r,hr,hq⟩:=step s hs.1 hs.2.1 hs.2.2
 cases r with
 |inl s'=>exact .inl ⟨s',hr,⟨hq.1,by omega,by omega⟩,by omega⟩
 |inr t=>exact .inr ⟨t,hr,hq⟩
theorem cutx {α:Type} {P:α->Prop} {n:Nat} (x:Sl α) (k:Int) (h0:0<=k) (hk:k<=n) (hP:∀ y∈x.es,P y):Tot (gslR x 0 (if k<ln x then k else ln x)) λy=>OkSl P n y:=by
 have key:∀ m:Int,0<=m->m<=ln x->m<=n->Tot (gslR x 0 m) λy=>OkSl P n y:=λm m0 m1 m2=>by
  unfold gslR
  simp only[ln]at m1
  rw[if_pos ⟨by omega,m0,by simp,by omega⟩]
  have sub:∀ (l:List α) (y:α),y∈(l.take m.toNat).drop (0:Int).toNat->y∈l:=λl y hy=>List.mem_of_mem_take (List.mem_of_mem_drop hy)
  have len:∀ l:List α,(((l.take m.toNat).drop (0:Int).toNat).length:Int)<=n:=λl=>by
   have:((l.take m.toNat).drop (0:Int).toNat).length<=m.toNat:=by simp;omega
   omega
  cases x with
  |nil=>exact Xf OkSl.nil
  |no s=>exact Xf ⟨len s,λy hy=>hP y (sub s y hy)⟩
  |full s=>
   refine Xf ?_
   split
   ·exact⟨len s,λy hy=>hP y (sub s y hy)⟩
   ·exact⟨len s,λy hy=>hP y (sub s y hy)⟩
 split
 ·exact key k h0 (by omega) hk
 ·exact key _ ln_nn (Int.le_refl _) (by omega)
theorem cuts (s:ByteArray):Tot (gsub s 0 (if (30)<lns s then (30)else lns s)) λt=>OkB t:=by
 have key:∀ m:Int,0<=m->m<=lns s->m<=30->Tot (gsub s 0 m) λt=>OkB t:=λm m0 m1 m2=>by
  unfold gsub
  simp only[lns]at m1
  rw[if_pos ⟨by omega,m0,by simp,by omega⟩]
  refine Xf ?_
  unfold OkB
  rw[ByteArray.size_extract]
  omega
 split
 ·exact key 30 (by omega) (by omega) (by omega)
 ·exact key _ (by simp only[lns];omega) (Int.le_refl _) (by omega)
theorem ok_mk {α:Type} {P:α->Prop} {n:Nat} {l:List α} (h:l.length<=n) (k:∀ y∈l,P y):OkSl P n (mkSl l):=⟨by simp only[ln,mkSl_es];omega,by rw[mkSl_es];exact k⟩
theorem cutSl_ok {α:Type} {P:α->Prop} {n m:Nat} {x:Sl α} (h:n<=m) (hP:∀ y∈x.es,P y):OkSl P m (Yn n x):=by
 have key:∀ l:List α,(∀ y∈l,P y)->OkSl P m (.no (l.take n)):=λl hl=>⟨by simp only[ln,Sl.es,List.length_take];omega,λy hy=>hl y (List.mem_of_mem_take hy)⟩
 cases x with
 |nil=>exact OkSl.nil
 |no l=>exact key l hP
 |full l=>exact key l hP
theorem sF201 {x:G147} (hb:big147 x):Tot (F201 x) okG147:=by
 unfold F201
 have h1:=hb.fp.1
 have h2:=hb.fA.1
 have h3:=hb.fq.1
 simp only[ln]at h1 h2 h3
 refine Xc (λ_=>Xf ?_) λc=>?_
 ·refine⟨(cutSl_ok (n:=5) (by omega) λ_ _=>trivial),(cutSl_ok (n:=4) (by omega) λ_ _=>trivial),?_⟩
  show OkSl okG171 1000 (mapSl cutT (Yn 5 x.fq))
  have h:OkSl (λ_:G171=>True) 1000 (Yn 5 x.fq):=cutSl_ok (by omega) λ_ _=>trivial
  generalize Yn 5 x.fq=y at h
  have key:∀ l:List G171,(l.length:Int)<=1000->OkSl okG171 1000 (.no (l.map cutT)):=λl hl=>⟨by simp only[ln,Sl.es,List.length_map];exact hl,λz hz=>by
   obtain⟨u,_,rfl⟩:=List.mem_map.1 hz
   refine⟨?_⟩
   unfold OkB cutT
   dsimp only
   rw[ByteArray.size_extract]
   omega⟩
  cases y with
  |nil=>exact OkSl.nil
  |no l=>exact key l h.1
  |full l=>exact key l h.1
 ·exfalso
  simp only[Bool.and_eq_false_iff,decide_eq_false_iff_not]at c
  rcases c with (c|c)|c<;>omega
theorem wi1 {k n:Int} (h0:0<=k) (h1:k<n) (hn:n<=maxLen):wi (k+1)=k+1:=by unfold maxLen at hn;exact Yc (by omega) (by omega)
theorem bk {α:Type} {k:Nat} {B:α->Prop} {x:Sl α} (h:bS k B x) (hk:k<=maxLen:=by decide):ln x<=maxLen:=by have:=h.1;omega
theorem bsx {α:Type} {k:Nat} {B:α->Prop} {x:Sl α} {i:Int} (h:bS k B x) (h0:0<=i) (h1:i<ln x):Tot (gx x.es i) B:=by
 obtain⟨y,e,hy,_⟩:=t_gx h0 h1
 exact⟨y,e,h.2 y hy⟩
def Ac {α:Type} (n:Nat) (P:α->Prop) (k:Int) (l:List α):Prop:=(l.length:Int)=k/\k<=n/\∀ y∈l,P y
theorem ac0 {α:Type} {n:Nat} {P:α->Prop}:Ac n P 0 ([]:List α):=⟨rfl,by omega,λ_ h=>by cases h⟩
theorem acS {α:Type} {n:Nat} {P:α->Prop} {k:Int} {l:List α} {y:α} (h:Ac n P k l) (hk:k<n) (hy:P y):Ac n P (k+1) (l++[y]):=⟨by simp;exact h.1,by omega,λz hz=>by
 rcases List.mem_append.1 hz with h1|h1
 ·exact h.2.2 z h1
 ·simp at h1;subst h1;exact hy⟩
theorem ac_app {α:Type} {n bytes:Nat} {P:α->Prop} {k:Int} {l:List α} {y:α} (h:Ac n P k l) (hn:n<=12:=by decide) (hb:bytes<=1000:=by decide):Tot (gapp bytes l (Sl.es (Sl.full [y]))) λq=>q=l++[y]:=by
 refine t_gapp ?_
 have h1:=h.1
 have h2:=h.2.1
 have:(l.length+(Sl.es (Sl.full [y])).length)<=13:=by simp[Sl.es];omega
 exact Nat.le_trans (Nat.mul_le_mul this hb) (by decide)
theorem sLF122_17 {v0:G100} {k:Int} {l:List G147} (hb:big100 v0) (b0:0<=k) (h:Ac 12 okG147 k l):Tot (LF122_17 v0 k l) (λr=>match r with
  |.inl (i,q)=>Ac 12 okG147 i q/\i=k+1/\k<ln v0.fg
  |.inr q=>∃ i,Ac 12 okG147 i q):=by
 unfold LF122_17
 have hf:Tot (JF122_19 v0 k l false) (λr=>match r with
  |.inl (i,q)=>Ac 12 okG147 i q/\i=k+1/\k<ln v0.fg
  |.inr q=>∃ i,Ac 12 okG147 i q):=Xf ⟨k,h⟩
 refine t_bd (λc=>?_) λ_=>hf
 by_cases c2:k<12
 ·rw[show decide (k<12)=true from decide_eq_true c2]
  unfold JF122_19
  simp only[cond_true]
  refine Xb (bsx hb.fg b0 c) λy hy=>Xb (sF201 hy) λz hz=>Xb (ac_app h) λq hq=>Xf ?_
  dsimp only
  rw[wi1 b0 c (bk hb.fg),hq]
  exact⟨acS h (by omega) hz,rfl,c⟩
 ·rw[show decide (k<12)=false from decide_eq_false c2]
  exact hf
theorem sF122 {v0:G100} (hb:big100 v0):Tot (F122 v0) okG100:=by
 unfold F122
 refine Xb (t_cnt (λx=>match x with|(k,_)=>k) (ln v0.fg) (bk hb.fg) (λx=>match x with|(k,l)=>Ac 12 okG147 k l) (T:=λq=>∃ i,Ac 12 okG147 i q) (by decide) ln_nn ac0 ?_) ?_
 ·rintro⟨k,l⟩ h h0 _
  refine(sLF122_17 hb h0 h).mono ?_
  rintro(⟨i,q⟩|r) h<;>exact h
 ·rintro q ⟨i,hq⟩
  have hE:OkSl okG147 1000 (mkSl q):=ok_mk (by have:=hq.1;have:=hq.2.1;omega) hq.2.2
  unfold JF122_2
  refine Xb (cutx (P:=λ_=>True) (n:=6) v0.fX 6 (by omega) (by omega) λ_ _=>trivial) λy hy=>?_
  refine Xc (λ_=>Xf ⟨hE,OkSl.nil⟩) λ_=>?_
  refine Xb (Vk (by have:=hy.1;omega)) λq2 h2=>Xf ⟨hE,?_⟩
  rw[h2]
  exact ok_mk (by have:=hy.1;simp only[ln]at this;omega) λ_ _=>trivial
theorem sLF59_38 {v0:G75} {c:Int} {C:G95} {k:Int} {l:List G100} (hC:gx v0.fe.es c=some C) (hb:big95 C) (b0:0<=k) (h:Ac 3 okG100 k l):Tot (LF59_38 v0 c k l) (λr=>match r with
  |.inl (i,q)=>Ac 3 okG100 i q/\i=k+1/\k<ln C.ff
  |.inr q=>∃ i,Ac 3 okG100 i q):=by
 unfold LF59_38
 rw[hC]
 simp only[Option.bind_some]
 have hf:Tot (JF59_40 v0 c k l false) (λr=>match r with
  |.inl (i,q)=>Ac 3 okG100 i q/\i=k+1/\k<ln C.ff
  |.inr q=>∃ i,Ac 3 okG100 i q):=Xf ⟨k,h⟩
 refine t_bd (λc1=>?_) λ_=>hf
 by_cases c2:k<3
 ·rw[show decide (k<3)=true from decide_eq_true c2]
  unfold JF59_40
  rw[hC]
  simp only[cond_true,Option.bind_some]
  refine Xb (bsx hb.ff b0 c1) λy hy=>Xb (sF122 hy) λz hz=>Xb (ac_app h) λq hq=>Xf ?_
  dsimp only
  rw[wi1 b0 c1 (bk hb.ff),hq]
  exact⟨acS h (by omega) hz,rfl,c1⟩
 ·rw[show decide (k<3)=false from decide_eq_false c2]
  exact hf
theorem sLF59_19 {v0:G75} {k:Int} {l:List G95} (hb:big75 v0) (b0:0<=k) (h:Ac 4 okG95 k l):Tot (LF59_19 v0 k l) (λr=>match r with
  |.inl (i,q)=>Ac 4 okG95 i q/\i=k+1/\k<ln v0.fe
  |.inr q=>∃ i,Ac 4 okG95 i q):=by
 unfold LF59_19
 have hf:Tot (JF59_21 v0 k l false) (λr=>match r with
  |.inl (i,q)=>Ac 4 okG95 i q/\i=k+1/\k<ln v0.fe
  |.inr q=>∃ i,Ac 4 okG95 i q):=Xf ⟨k,h⟩
 refine t_bd (λc1=>?_) λ_=>hf
 by_cases c2:k<4
 ·rw[show decide (k<4)=true from decide_eq_true c2]
  unfold JF59_21
  obtain⟨C,eC,hC⟩:=bsx hb.fe b0 c1
  rw[eC]
  simp only[cond_true,Option.bind_some]
  refine Xb (cutx (P:=λ_=>True) (n:=8) C.fU 8 (by omega) (by omega) λ_ _=>trivial) λy hy=>?_
  have key:∀ x:Sl G230,ln x<=8->Tot (JF59_26 v0 k l x) (λr=>match r with
    |.inl (i,q)=>Ac 4 okG95 i q/\i=k+1/\k<ln v0.fe
    |.inr q=>∃ i,Ac 4 okG95 i q):=λx hx=>by
   unfold JF59_26
   refine Xb (t_cnt (λx=>match x with|(k,_)=>k) (ln C.ff) (bk hC.ff) (λx=>match x with|(k,l)=>Ac 3 okG100 k l) (T:=λq=>∃ i,Ac 3 okG100 i q) (by decide) ln_nn ac0 ?_) ?_
   ·rintro⟨j,q⟩ h h0 _
    refine(sLF59_38 eC hC h0 h).mono ?_
    rintro(⟨i,q⟩|r) h<;>exact h
   ·rintro q ⟨i,hq⟩
    show Tot (JF59_28 l x k (mkSl q)) _
    unfold JF59_28
    refine Xb (ac_app h) λq2 h2=>?_
    unfold JF59_24
    refine Xf ?_
    dsimp only
    rw[wi1 b0 c1 (bk hb.fe),h2]
    exact⟨acS h (by omega) ⟨.tr hx,ok_mk (by have:=hq.1;have:=hq.2.1;omega) hq.2.2⟩,rfl,c1⟩
  refine Xc (λ_=>key _ (by simp[ln,Sl.es])) λ_=>?_
  refine Xb (Vk (by have:=hy.1;omega)) λq2 h2=>key _ ?_
  rw[h2]
  simp only[ln,mkSl_es]
  exact hy.1
 ·rw[show decide (k<4)=false from decide_eq_false c2]
  exact hf
theorem sF28 {v0:G75} (hb:big75 v0):Tot (F28 v0) okG75:=by
 have h59:Tot (F59 v0) okG75:=by
  unfold F59
  refine Xb (t_cnt (λx=>match x with|(k,_)=>k) (ln v0.fe) (bk hb.fe) (λx=>match x with|(k,l)=>Ac 4 okG95 k l) (T:=λq=>∃ i,Ac 4 okG95 i q) (by decide) ln_nn ac0 ?_) ?_
  ·rintro⟨j,q⟩ h h0 _
   refine(sLF59_19 hb h0 h).mono ?_
   rintro(⟨i,q⟩|r) h<;>exact h
  ·rintro q ⟨i,hq⟩
   show Tot (JF59_2 v0 (mkSl q)) _
   have hE:OkSl okG95 5 (mkSl q):=ok_mk (by have:=hq.1;have:=hq.2.1;omega) hq.2.2
   unfold JF59_2
   refine Xb (cutx (P:=λ_=>True) (n:=8) v0.fv 8 (by omega) (by omega) λ_ _=>trivial) λy hy=>?_
   have key:∀ x:Sl G111,ln x<=8->Tot (JF59_4 v0 (mkSl q) x) okG75:=λx hx=>by
    unfold JF59_4
    exact Xb (cuts _) λt ht=>Xf ⟨hb.fu,ht,.tr hx,hE⟩
   refine Xc (λ_=>key _ (by simp[ln,Sl.es])) λ_=>?_
   refine Xb (Vk (by have:=hy.1;omega)) λq2 h2=>key _ ?_
   rw[h2]
   simp only[ln,mkSl_es]
   exact hy.1
 unfold F28
 exact Xb h59 λy hy=>Xf ⟨hy.fu,hy.fG,hy.fv,hy.fe⟩
theorem sLF7_28 {v0:G27} {k:Int} {l:List G75} (hb:big27 v0) (b0:0<=k) (h:Ac 4 okG75 k l):Tot (LF7_28 v0 k l) (λr=>match r with
  |.inl (i,q)=>Ac 4 okG75 i q/\i=k+1/\k<ln v0.fc
  |.inr q=>∃ i,Ac 4 okG75 i q):=by
 unfold LF7_28
 have hf:Tot (JF7_30 v0 k l false) (λr=>match r with
  |.inl (i,q)=>Ac 4 okG75 i q/\i=k+1/\k<ln v0.fc
  |.inr q=>∃ i,Ac 4 okG75 i q):=Xf ⟨k,h⟩
 refine t_bd (λc=>?_) λ_=>hf
 by_cases c2:k<4
 ·rw[show decide (k<4)=true from decide_eq_true c2]
  unfold JF7_30
  simp only[cond_true]
  refine Xb (bsx hb.fc b0 c) λy hy=>Xb (sF28 hy) λz hz=>Xb (ac_app h) λq hq=>Xf ?_
  dsimp only
  rw[wi1 b0 c (bk hb.fc),hq]
  exact⟨acS h (by omega) hz,rfl,c⟩
 ·rw[show decide (k<4)=false from decide_eq_false c2]
  exact hf
theorem sLF7_46 {v0:G27} {k:Int} {l:List G68} (hb:big27 v0) (b0:0<=k) (h:Ac 3 okG68 k l):Tot (LF7_46 v0 k l) (λr=>match r with
  |.inl (i,q)=>Ac 3 okG68 i q/\i=k+1/\k<ln v0.fh
  |.inr q=>∃ i,Ac 3 okG68 i q):=by
 unfold LF7_46
 have hf:Tot (JF7_48 v0 k l false) (λr=>match r with
  |.inl (i,q)=>Ac 3 okG68 i q/\i=k+1/\k<ln v0.fh
  |.inr q=>∃ i,Ac 3 okG68 i q):=Xf ⟨k,h⟩
 refine t_bd (λc=>?_) λ_=>hf
 by_cases c2:k<3
 ·rw[show decide (k<3)=true from decide_eq_true c2]
  unfold JF7_48
  simp only[cond_true]
  refine Xb (bsx hb.fh b0 c) λp hp=>Xb (cuts p.fav) λt ht=>Xb (cutx (P:=λ_=>True) (n:=2) p.ft 2 (by omega) (by omega) λ_ _=>trivial) λy hy=>?_
  have key:∀ x:Sl G184,ln x<=2->Tot (JF7_54 l p k t x) (λr=>match r with
    |.inl (i,q)=>Ac 3 okG68 i q/\i=k+1/\k<ln v0.fh
    |.inr q=>∃ i,Ac 3 okG68 i q):=λx hx=>by
   unfold JF7_54
   refine Xb (ac_app h) λq hq=>Xf ?_
   dsimp only
   rw[wi1 b0 c (bk hb.fh),hq]
   exact⟨acS h (by omega) ⟨ht,.tr (by dsimp only;omega)⟩,rfl,c⟩
  refine Xc (λ_=>key _ (by simp[ln,Sl.es])) λ_=>?_
  refine Xb (Vk (by have:=hy.1;omega)) λq2 h2=>key _ ?_
  rw[h2]
  simp only[ln,mkSl_es]
  exact hy.1
 ·rw[show decide (k<3)=false from decide_eq_false c2]
  exact hf
theorem sF7 {v0:G27} (hb:big27 v0):Tot (F7 v0) okG27:=by
 unfold F7
 refine Xb (cuts _) λt ht=>?_
 refine Xb (t_cnt (λx=>match x with|(k,_)=>k) (ln v0.fh) (bk hb.fh) (λx=>match x with|(k,l)=>Ac 3 okG68 k l) (T:=λq=>∃ i,Ac 3 okG68 i q) (by decide) ln_nn ac0 ?_) ?_
 ·rintro⟨j,q⟩ h h0 _
  refine(sLF7_46 hb h0 h).mono ?_
  rintro(⟨i,q⟩|r) h<;>exact h
 rintro ps ⟨i,hps⟩
 have hP:OkSl okG68 4 (mkSl ps):=ok_mk (by have:=hps.1;have:=hps.2.1;omega) hps.2.2
 show Tot (JF7_4 v0 t ps) _
 unfold JF7_4
 refine Xb (t_cnt (λx=>match x with|(k,_)=>k) (ln v0.fc) (bk hb.fc) (λx=>match x with|(k,l)=>Ac 4 okG75 k l) (T:=λq=>∃ i,Ac 4 okG75 i q) (by decide) ln_nn ac0 ?_) ?_
 ·rintro⟨j,q⟩ h h0 _
  refine(sLF7_28 hb h0 h).mono ?_
  rintro(⟨i,q⟩|r) h<;>exact h
 rintro ms ⟨i2,hms⟩
 have hM:OkSl okG75 10 (mkSl ms):=ok_mk (by have:=hms.1;have:=hms.2.1;omega) hms.2.2
 show Tot (JF7_6 v0 t ps (mkSl ms)) _
 have k10:∀ (sp:Sl G213) (la:Sl G58),ln sp<=8->ln la<=3->Tot (JF7_10 t v0 ps (mkSl ms) sp la) okG27:=λsp la h1 h2=>Xf ⟨ht,hP,hM,.tr (by dsimp only;omega),.tr (by dsimp only;omega)⟩
 have k8:∀ sp:Sl G213,ln sp<=8->Tot (JF7_8 v0 t ps (mkSl ms) sp) okG27:=λsp h1=>by
  unfold JF7_8
  refine Xb (cutx (P:=λ_=>True) (n:=3) v0.fJ 3 (by omega) (by omega) λ_ _=>trivial) λy hy=>?_
  refine Xc (λ_=>k10 _ _ h1 (by simp[ln,Sl.es])) λ_=>?_
  refine Xb (Vk (by have:=hy.1;omega)) λq2 h2=>k10 _ _ h1 ?_
  rw[h2]
  simp only[ln,mkSl_es]
  exact hy.1
 unfold JF7_6
 refine Xb (cutx (P:=λ_=>True) (n:=8) v0.fi 8 (by omega) (by omega) λ_ _=>trivial) λy hy=>?_
 refine Xc (λ_=>k8 _ (by simp[ln,Sl.es])) λ_=>?_
 refine Xb (Vk (by have:=hy.1;omega)) λq2 h2=>k8 _ ?_
 rw[h2]
 simp only[ln,mkSl_es]
 exact hy.1
end Go.Proofs.YtibndgdocbbbeaaGreat
