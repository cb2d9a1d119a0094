/- A part of the proof. -/
import Derived.Test.YtibndgdocbbbeaaGreatOP3
import Derived.Test.YtibndgdocbbbeaaGreatFT
import Derived.Test.YtibndgdocbbbeaaGreatProg
import Derived.Test.YtibndgdocbbbeaaGreatTTa
set_option linter.all false
namespace Go.Proofs.YtibndgdocbbbeaaGreat
open Go.PE Go.RowKit
set_option maxRecDepth 100000
def bS {α:Type} (k:Nat) (B:α->Prop) (x:Sl α):Prop:=ln x<=k/\∀ y∈x.es,B y
theorem op58:DOp Tryz.prog 58 c58 (λ_=>True):=Xx Tryz.underlying58 (Xf (Xq Tryz.underlying3) (Xf (Xq Tryz.underlying3) Yq)) (λp=>(⟨p.1,p.2.1⟩:G58)) (λ_ _=>trivial)
theorem op65:DOp Tryz.prog 65 c65 (λ_=>True):=Xx Tryz.underlying65 (Xf (Xq Tryz.underlying3) (Xf (Xq Tryz.underlying3) Yq)) (λp=>(⟨p.1,p.2.1⟩:G65)) (λ_ _=>trivial)
theorem op184:DOp Tryz.prog 184 c184 (λ_=>True):=Xx Tryz.underlying184 (Xf op58 (Xf (Xq Tryz.underlying3) Yq)) (λp=>(⟨p.1,p.2.1⟩:G184)) (λ_ _=>trivial)
structure big68 (x:G68):Prop where
 faz:x.faz.size<=maxLen
 fx:bS 5864062014634 (λ_=>True) x.fx
theorem op68:DOp Tryz.prog 68 c68 big68:=Xx Tryz.underlying68 (Xf op58 (Xf (op_str Tryz.underlying9) (Xf op65 (Xf (Yz 5864062014634 Tryz.underlying66 op184) Yq)))) (λp=>(⟨p.1,p.2.1,p.2.2.1,p.2.2.2.1⟩:G68)) (λp h=>⟨h.2.1,⟨h.2.2.2.1.1,λ_ _=>trivial⟩⟩)
theorem op69:DOp Tryz.prog 69 c69 (λ_=>True):=op_array Tryz.underlying69 (Xf (Xq Tryz.underlying3) (Xf (Xq Tryz.underlying3) (Xf (Xq Tryz.underlying3) (Xf (Xq Tryz.underlying3) (Xf (Xq Tryz.underlying3) (Xf (Xq Tryz.underlying3) Yq)))))) (λp=>(⟨p.1,p.2.1,p.2.2.1,p.2.2.2.1,p.2.2.2.2.1,p.2.2.2.2.2.1⟩:G69)) (λ_ _=>trivial)
theorem op71:DOp Tryz.prog 71 c71 (λ_=>True):=Xx Tryz.underlying71 (Xf (Xq Tryz.underlying3) (Xf (Xq Tryz.underlying3) (Xf op69 Yq))) (λp=>(⟨p.1,p.2.1,p.2.2.1⟩:G71)) (λ_ _=>trivial)
theorem op111:DOp Tryz.prog 111 c111 (λ_=>True):=Xx Tryz.underlying111 (Xf (Xq Tryz.underlying3) (Xf (Xq Tryz.underlying3) (Xf (op_bool Tryz.underlying4) Yq))) (λp=>(⟨p.1,p.2.1,p.2.2.1⟩:G111)) (λ_ _=>trivial)
theorem op230:DOp Tryz.prog 230 c230 (λ_=>True):=Xx Tryz.underlying230 (Xf (Xq Tryz.underlying3) (Xf (Xq Tryz.underlying3) Yq)) (λp=>(⟨p.1,p.2.1⟩:G230)) (λ_ _=>trivial)
theorem op142:DOp Tryz.prog 142 c142 (λ_=>True):=Xx Tryz.underlying142 (Xf (Xq Tryz.underlying3) (Xf (Xq Tryz.underlying3) Yq)) (λp=>(⟨p.1,p.2.1⟩:G142)) (λ_ _=>trivial)
theorem op80:DOp Tryz.prog 80 c80 (λ_=>True):=Xx Tryz.underlying80 (Xf (Xq Tryz.underlying3) (Xf (Xq Tryz.underlying3) (Xf (Xq Tryz.underlying3) Yq))) (λp=>(⟨p.1,p.2.1,p.2.2.1⟩:G80)) (λ_ _=>trivial)
theorem op182:DOp Tryz.prog 182 c182 (λ_=>True):=Xx Tryz.underlying182 (Xf op80 (Xf (op_bool Tryz.underlying4) (Xf (Xq Tryz.underlying3) Yq))) (λp=>(⟨p.1,p.2.1,p.2.2.1⟩:G182)) (λ_ _=>trivial)
theorem op245:DOp Tryz.prog 245 c245 (λ_=>True):=Xx Tryz.underlying245 (Xf op80 (Xf (Xq Tryz.underlying3) (Xf (op_bool Tryz.underlying4) Yq))) (λp=>(⟨p.1,p.2.1,p.2.2.1⟩:G245)) (λ_ _=>trivial)
structure big171 (x:G171):Prop where
 fP:x.fP.size<=maxLen
theorem op171:DOp Tryz.prog 171 c171 big171:=Xx Tryz.underlying171 (Xf (op_str Tryz.underlying9) (Xf (Xq Tryz.underlying3) Yq)) (λp=>(⟨p.1,p.2.1⟩:G171)) (λp h=>⟨h.1⟩)
structure big147 (x:G147):Prop where
 fD:bS 3518437208780 (λ_=>True) x.fD
 fS:bS 3518437208780 (λ_=>True) x.fS
 fv:bS 5864062014634 big171 x.fv
theorem op147:DOp Tryz.prog 147 c147 big147:=Xx Tryz.underlying147 (Xf op58 (Xf (Xq Tryz.underlying3) (Xf op142 (Xf (Yz 3518437208780 Tryz.underlying143 op182) (Xf (Yz 3518437208780 Tryz.underlying144 op245) (Xf (Xq Tryz.underlying3) (Xf (Xq Tryz.underlying3) (Xf (Xq Tryz.underlying3) (Xf (Yz 5864062014634 Tryz.underlying145 op171) (Xf (Xq Tryz.underlying3) (Xf (Xq Tryz.underlying3) Yq))))))))))) (λp=>(⟨p.1,p.2.1,p.2.2.1,p.2.2.2.1,p.2.2.2.2.1,p.2.2.2.2.2.1,p.2.2.2.2.2.2.1,p.2.2.2.2.2.2.2.1,p.2.2.2.2.2.2.2.2.1,p.2.2.2.2.2.2.2.2.2.1,p.2.2.2.2.2.2.2.2.2.2.1⟩:G147)) (λp h=>⟨⟨h.2.2.2.1.1,λ_ _=>trivial⟩,⟨h.2.2.2.2.1.1,λ_ _=>trivial⟩,h.2.2.2.2.2.2.2.2.1⟩)
theorem op425:DOp Tryz.prog 425 c425 (λ_=>True):=Xx Tryz.underlying425 (Xf (Xq Tryz.underlying3) (Xf (Xq Tryz.underlying3) (Xf (Xq Tryz.underlying3) (Xf (Xq Tryz.underlying3) Yq)))) (λp=>(⟨p.1,p.2.1,p.2.2.1,p.2.2.2.1⟩:G425)) (λ_ _=>trivial)
structure big100 (x:G100):Prop where
 fg:bS 925904528626 big147 x.fg
 fY:bS 4398046510976 (λ_=>True) x.fY
theorem op100:DOp Tryz.prog 100 c100 big100:=Xx Tryz.underlying100 (Xf (Yz 925904528626 Tryz.underlying97 op147) (Xf (Yz 4398046510976 Tryz.underlying98 op425) Yq)) (λp=>(⟨p.1,p.2.1⟩:G100)) (λp h=>⟨h.1,⟨h.2.1.1,λ_ _=>trivial⟩⟩)
structure big95 (x:G95):Prop where
 fR:bS 8796093021952 (λ_=>True) x.fR
 fh:bS 2932031007317 big100 x.fh
theorem op95:DOp Tryz.prog 95 c95 big95:=Xx Tryz.underlying95 (Xf (Yz 8796093021952 Tryz.underlying92 op230) (Xf (Yz 2932031007317 Tryz.underlying93 op100) Yq)) (λp=>(⟨p.1,p.2.1⟩:G95)) (λp h=>⟨⟨h.1.1,λ_ _=>trivial⟩,h.2.1⟩)
structure big75 (x:G75):Prop where
 fX:x.fX<=9223372036854775807
 fax:x.fax.size<=maxLen
 fm:bS 5864062014634 (λ_=>True) x.fm
 ff:bS 2932031007317 big95 x.ff
theorem op75:DOp Tryz.prog 75 c75 big75:=Xx Tryz.underlying75 (Xf op58 (Xf op71 (Xf (Xq Tryz.underlying3) (Xf (Xq Tryz.underlying3) (Xf (op_bool Tryz.underlying4) (Xf (Xq Tryz.underlying3) (Xf (Xq Tryz.underlying3) (Xf (Xq Tryz.underlying3) (Xf (Xq Tryz.underlying3) (Xf (Xq Tryz.underlying3) (Xf (Xq Tryz.underlying3) (Xf (op_str Tryz.underlying9) (Xf (Yz 5864062014634 Tryz.underlying72 op111) (Xf (Yz 2932031007317 Tryz.underlying73 op95) Yq)))))))))))))) (λp=>(⟨p.1,p.2.1,p.2.2.1,p.2.2.2.1,p.2.2.2.2.1,p.2.2.2.2.2.1,p.2.2.2.2.2.2.1,p.2.2.2.2.2.2.2.1,p.2.2.2.2.2.2.2.2.1,p.2.2.2.2.2.2.2.2.2.1,p.2.2.2.2.2.2.2.2.2.2.1,p.2.2.2.2.2.2.2.2.2.2.2.1,p.2.2.2.2.2.2.2.2.2.2.2.2.1,p.2.2.2.2.2.2.2.2.2.2.2.2.2.1⟩:G75)) (λp h=>⟨h.2.2.2.2.2.1.2,h.2.2.2.2.2.2.2.2.2.2.2.1,⟨h.2.2.2.2.2.2.2.2.2.2.2.2.1.1,λ_ _=>trivial⟩,h.2.2.2.2.2.2.2.2.2.2.2.2.2.1⟩)
theorem op213:DOp Tryz.prog 213 c213 (λ_=>True):=Xx Tryz.underlying213 (Xf op58 (Xf (Xq Tryz.underlying3) (Xf op58 (Xf op58 Yq)))) (λp=>(⟨p.1,p.2.1,p.2.2.1,p.2.2.2.1⟩:G213)) (λ_ _=>trivial)
structure big27 (x:G27):Prop where
 fay:x.fay.size<=maxLen
 fi:bS 1954687338211 big68 x.fi
 fc:bS 651562446070 big75 x.fc
 fp:bS 2513169434843 (λ_=>True) x.fp
 fG:bS 8796093021952 (λ_=>True) x.fG
theorem op27:DOp Tryz.prog 27 c27 big27:=Xx Tryz.underlying27 (Xf (op_str Tryz.underlying9) (Xf (op_bool Tryz.underlying4) (Xf (Yz 1954687338211 Tryz.underlying22 op68) (Xf (Yz 651562446070 Tryz.underlying23 op75) (Xf (Yz 2513169434843 Tryz.underlying24 op213) (Xf (Yz 8796093021952 Tryz.underlying25 op58) Yq)))))) (λp=>(⟨p.1,p.2.1,p.2.2.1,p.2.2.2.1,p.2.2.2.2.1,p.2.2.2.2.2.1⟩:G27)) (λp h=>⟨h.1,h.2.2.1,h.2.2.2.1,⟨h.2.2.2.2.1.1,λ_ _=>trivial⟩,⟨h.2.2.2.2.2.1.1,λ_ _=>trivial⟩⟩)
end Go.Proofs.YtibndgdocbbbeaaGreat
namespace Go.Proofs.YtibndgdocbbbeaaGreat
open Go.PE Go.RowKit
set_option maxRecDepth 100000
set_option maxHeartbeats 4000000
theorem t_cnt {σ τ:Type} {body:σ->Option (σ⊕τ)} (a:σ->Int) (n:Int) (hn:n<=maxLen) (I:σ->Prop) {T:τ->Prop} {s:σ} (h0:0<=a s) (h1:a s<=n) (hI:I s)
  (b:∀ s,I s->0<=a s->a s<=n->Tot (body s) λr=>match r with
   |.inl s'=>I s'/\a s'=a s+1/\a s<n
   |.inr t=>T t):Tot (Xg body s) T:=by
 unfold maxLen at hn
 refine Xs (λs=>I s/\0<=a s/\a s<=n) (λs=>(n-a s).toNat) T (λs hs=>?_) ⟨hI,h0,h1⟩ (by omega)
 obtain⟨r,hr,hq⟩:=b s hs.1 hs.2.1 hs.2.2
 cases r with
 |inl s'=>exact .inl ⟨s',hr,⟨hq.1,by omega,by omega⟩,by omega⟩
 |inr t=>exact .inr ⟨t,hr,hq⟩
def upto {α:Type} (x:Sl α) (B:α->Prop) (k:Int):Prop:=∀ i y,i<k->gx x.es i=some y->B y
theorem upto0 {α:Type} {x:Sl α} {B:α->Prop}:upto x B 0:=λi y hi h=>by have:=(Ya h).1;omega
theorem upto1 {α:Type} {x:Sl α} {B:α->Prop} {k:Int} {y:α} (h:upto x B k) (hy:gx x.es k=some y) (hb:B y):upto x B (k+1):=λi z hi hz=>by
 rcases Int.lt_or_le i k with h1|h1
 ·exact h i z h1 hz
 ·obtain rfl:i=k:=by omega
  cases hz.symm.trans hy
  exact hb
theorem uptoE {α:Type} {x:Sl α} {B:α->Prop} {k:Int} (h:upto x B k) (hk:ln x<=k):∀ y∈x.es,B y:=λy hy=>by
 obtain⟨i,hi⟩:=List.getElem?_of_mem hy
 have hl:=(List.getElem?_eq_some_iff.1 hi).1
 refine h (i:Nat) y (by simp only[ln]at hk;omega) ?_
 unfold gx
 rw[if_pos (by omega),show((i:Nat):Int).toNat=i by omega]
 exact hi
theorem bSm {α:Type} {k:Nat} {B:α->Prop} {x:Sl α} (h:bS k B x) (hk:Nat.ble k 8796093022208=true:=by decide):ln x<=maxLen:=by
 have:=h.1
 have:=Nat.le_of_ble_eq_true hk
 unfold maxLen
 omega
theorem bsx {α:Type} {k:Nat} {B:α->Prop} {x:Sl α} {i:Int} (h:bS k B x) (h0:0<=i) (h1:i<ln x):Tot (gx x.es i) λy=>B y/\gx x.es i=some y:=by
 obtain⟨y,e,hy,_⟩:=t_gx h0 h1
 exact⟨y,e,h.2 y hy,e⟩
def sOK (x:G171):Prop:=x.fP.size<=300
def eOK (x:G147):Prop:=ln x.fD<=12/\ln x.fS<=12/\ln x.fv<=12/\∀ y∈x.fv.es,sOK y
def vOK (x:G100):Prop:=(ln x.fg<=20/\∀ y∈x.fg.es,eOK y)/\ln x.fY<=6
theorem wi1 {k n:Int} (h0:0<=k) (h1:k<n) (hn:n<=maxLen):wi (k+1)=k+1:=by unfold maxLen at hn;exact Xp (by omega) (by omega)
theorem sLF37_21 {a:G147} {k:Int} (hb:big147 a) (b0:0<=k) (hu:upto a.fv sOK k):Tot (LF37_21 a k) (λr=>match r with
  |.inl i=>upto a.fv sOK i/\i=k+1/\k<ln a.fv
  |.inr (.inl _)=>True
  |.inr (.inr _)=>∀ y∈a.fv.es,sOK y):=by
 unfold LF37_21
 refine t_bd (λc=>?_) λc=>Xd (uptoE hu (by omega))
 refine Xb (bsx hb.fv b0 c) λd b=>?_
 refine t_bd (λc2=>Xd trivial) λc2=>Xd ?_
 have e:=wi1 b0 c (bSm hb.fv)
 dsimp only
 rw[e]
 exact⟨upto1 hu b.2 (by unfold sOK;simp only[lns]at c2;omega),rfl,c⟩
theorem sJF37_14 {a:G147} {k n:Int} {b:Bool} (hb:big147 a) (b0:0<=k) (b1:k<n) (hn:n<=maxLen) (h:b=false->ln a.fD<=12/\ln a.fS<=12/\ln a.fv<=12):Tot (JF37_14 a k b) (λr=>match r with
  |.inl i=>eOK a/\i=k+1
  |.inr (.inl _)=>True
  |.inr (.inr _)=>False):=by
 unfold JF37_14
 refine Xc (λc=>Xd trivial) λc=>?_
 obtain⟨h1,h2,h3⟩:=h c
 refine Xb (t_cnt (λ(k:Int)=>k) (ln a.fv) (bSm hb.fv) (λk=>upto a.fv sOK k) (T:=λr=>match r with|.inl _=>True|.inr _=>∀ y∈a.fv.es,sOK y) tB ln_nn upto0 ?_) ?_
 ·intro k hu h0 _
  refine(sLF37_21 hb h0 hu).mono ?_
  rintro(i|r|r) h<;>exact h
 ·rintro(r|r) h
  ·exact Xd trivial
  ·show Tot (JF37_10 k) _
   unfold JF37_10
   refine Xd ?_
   dsimp only
   rw[wi1 b0 b1 hn]
   exact⟨⟨h1,h2,h3,h⟩,rfl⟩
theorem sLF37_8 {v0:G100} {k:Int} (hb:big100 v0) (h0:0<=k) (hu:upto v0.fg eOK k):Tot (LF37_8 v0 k) (λr=>match r with
  |.inl i=>upto v0.fg eOK i/\i=k+1/\k<ln v0.fg
  |.inr (.inl _)=>True
  |.inr (.inr _)=>∀ y∈v0.fg.es,eOK y):=by
 unfold LF37_8
 refine t_bd (λc=>?_) λc=>Xd (uptoE hu (by omega))
 refine Xb (bsx hb.fg h0 c) λa d=>?_
 have key:∀ {b:Bool},(b=false->ln a.fD<=12/\ln a.fS<=12/\ln a.fv<=12)->Tot (JF37_14 a k b) (λr=>match r with
   |.inl i=>upto v0.fg eOK i/\i=k+1/\k<ln v0.fg
   |.inr (.inl _)=>True
   |.inr (.inr _)=>∀ y∈v0.fg.es,eOK y):=λhq=>by
  refine(sJF37_14 d.1 h0 c (bSm hb.fg) hq).mono ?_
  rintro(i|r|r) h
  ·obtain⟨h1,rfl⟩:=h
   exact⟨upto1 hu d.2 h1,rfl,c⟩
  ·trivial
  ·exact h.elim
 refine t_bd (λc1=>key (b:=true) (by intro h;cases h)) λc1=>?_
 refine t_bd (λc2=>key (b:=true) (by intro h;cases h)) λc2=>?_
 exact key λh=>⟨by omega,by omega,by have:=of_decide_eq_false h;omega⟩
theorem sF37 {v0:G100} (hb:big100 v0):Tot (F37 v0) (λb=>b=true->vOK v0):=by
 unfold F37
 refine Xb (t_cnt (λ(k:Int)=>k) (ln v0.fg) (bSm hb.fg) (λk=>upto v0.fg eOK k) (T:=λr=>match r with|.inl _=>True|.inr _=>∀ y∈v0.fg.es,eOK y) (by decide) ln_nn upto0 ?_) ?_
 ·intro k hu h0 _
  refine(sLF37_8 hb h0 hu).mono ?_
  rintro(i|r|r) h<;>exact h
 ·rintro(r|r) h
  ·exact Xd (by intro h;cases h)
  ·show Tot (JF37_1 v0) _
   unfold JF37_1
   refine t_bd (λc=>Xd λh2=>⟨⟨c,h⟩,of_decide_eq_true h2⟩) λc=>Xd (by intro h;cases h)
theorem sF38 {v0:G100} (hb:big100 v0):Tot (F38 v0) (λ_=>True):=by
 unfold F38
 refine Xb (R:=λ_=>True) (t_cnt (λx=>match x with|(_,k)=>k) (ln v0.fg) (bSm hb.fg) (λ_=>True) (T:=λ_=>True) tB ln_nn trivial ?_) λo _=>Xd trivial
 rintro⟨v3,k⟩ _ h0 h1
 dsimp only at h0 h1 ⊢
 unfold LF38_10
 refine t_bd (λc=>?_) λc=>Xd trivial
 obtain⟨y,ey,hy⟩:=bsx hb.fg h0 c
 refine Xb (R:=λ_=>True) (t_cnt (λx=>match x with|(_,j)=>j) (ln y.fv) (bSm hy.1.fv) (λ_=>True) (T:=λ_=>True) tB ln_nn trivial ?_) λo _=>?_
 ·rintro⟨a,j⟩ _ g0 g1
  dsimp only at g0 g1 ⊢
  unfold LF38_21
  rw[ey]
  simp only[Option.bind_some]
  refine t_bd (λc2=>?_) λc2=>Xd trivial
  refine Xb (bsx hy.1.fv g0 c2) λb _=>Xd ⟨trivial,wi1 g0 c2 (bSm hy.1.fv),c2⟩
 ·show Tot (JF38_13 k o) _
  unfold JF38_13
  exact Xd ⟨trivial,wi1 h0 c (bSm hb.fg),c⟩
def cOK (x:G95):Prop:=ln x.fR<=5/\ln x.fh<=3/\∀ y∈x.fh.es,vOK y
def mOK (x:G75):Prop:=(ln x.ff<=5/\ln x.fm<=5/\x.fax.size<=300)/\∀ y∈x.ff.es,cOK y
def pOK (x:G68):Prop:=ln x.fx<=5/\x.faz.size<=300
theorem sLF12_50 {e:G75} {C:G95} {d a b k:Int} (hb:big95 C) (hC:gx e.ff.es d=some C) (b0:0<=k) (hu:upto C.fh vOK k):Tot (LF12_50 e d a b k) (λr=>match r with
  |.inl (_,_,i)=>upto C.fh vOK i/\i=k+1/\k<ln C.fh
  |.inr (.inl _)=>True
  |.inr (.inr _)=>∀ y∈C.fh.es,vOK y):=by
 unfold LF12_50
 rw[hC]
 simp only[Option.bind_some]
 refine t_bd (λc=>?_) λc=>Xd (uptoE hu (by omega))
 obtain⟨V,eV,hV⟩:=bsx hb.fh b0 c
 rw[eV]
 simp only[Option.bind_some]
 refine Xb (sF37 hV.1) λh f=>?_
 refine Xc (λ_=>Xd trivial) λc1=>?_
 have hv:vOK V:=f (by simpa using c1)
 refine Xb (sF38 hV.1) λg _=>?_
 have key:∀ q:Bool,Tot (JF12_72 a V b g k q) (λr=>match r with
   |.inl (_,_,i)=>upto C.fh vOK i/\i=k+1/\k<ln C.fh
   |.inr (.inl _)=>True
   |.inr (.inr _)=>∀ y∈C.fh.es,vOK y):=λq=>by
  unfold JF12_72
  refine Xc (λ_=>Xd trivial) λ_=>Xd ?_
  dsimp only
  rw[wi1 b0 c (bSm hb.fh)]
  exact⟨upto1 hu eV hv,rfl,c⟩
 exact Xc (λ_=>key _) λ_=>key _
theorem sJF12_39 {e:G75} {C:G95} {d a b:Int} {q:Bool} (hm:big75 e) (hb:big95 C) (hC:gx e.ff.es d=some C) (h:q=false->ln C.fR<=5/\ln C.fh<=3):Tot (JF12_39 e d a b q) (λr=>match r with
  |.inl (_,_,i)=>cOK C/\i=d+1
  |.inr (.inl _)=>True
  |.inr (.inr _)=>False):=by
 unfold JF12_39
 refine Xc (λc=>Xd trivial) λc=>?_
 obtain⟨h1,h2⟩:=h c
 refine Xb (t_cnt (λx=>match x with|(_,_,k)=>k) (ln C.fh) (bSm hb.fh) (λx=>match x with|(_,_,k)=>upto C.fh vOK k) (T:=λr=>match r with|.inl _=>True|.inr _=>∀ y∈C.fh.es,vOK y) tB ln_nn upto0 ?_) ?_
 ·rintro⟨x,y,k⟩ hu h0 _
  refine(sLF12_50 hb hC h0 hu).mono ?_
  rintro(⟨_,_,i⟩|r|r) h<;>exact h
 ·rintro(r|⟨x,y⟩) h
  ·exact Xd trivial
  ·show Tot (JF12_37 d x y) _
   unfold JF12_37
   refine Xd ?_
   dsimp only
   have g:=Ya hC
   rw[wi1 g.1 (show d<ln e.ff from g.2) (bSm hm.ff)]
   exact⟨⟨h1,h2,h⟩,rfl⟩
theorem sLF12_33 {d:G75} {a b k:Int} (hm:big75 d) (b0:0<=k) (hu:upto d.ff cOK k):Tot (LF12_33 d a b k) (λr=>match r with
  |.inl (_,_,i)=>upto d.ff cOK i/\i=k+1/\k<ln d.ff
  |.inr (.inl _)=>True
  |.inr (.inr _)=>∀ y∈d.ff.es,cOK y):=by
 unfold LF12_33
 refine t_bd (λc=>?_) λc=>Xd (uptoE hu (by omega))
 obtain⟨C,eC,hC⟩:=bsx hm.ff b0 c
 rw[eC]
 simp only[Option.bind_some]
 have key:∀ {q:Bool},(q=false->ln C.fR<=5/\ln C.fh<=3)->Tot (JF12_39 d k a b q) (λr=>match r with
   |.inl (_,_,i)=>upto d.ff cOK i/\i=k+1/\k<ln d.ff
   |.inr (.inl _)=>True
   |.inr (.inr _)=>∀ y∈d.ff.es,cOK y):=λhq=>by
  refine(sJF12_39 hm hC.1 eC hq).mono ?_
  rintro(⟨_,_,i⟩|r|r) h
  ·obtain⟨h1,rfl⟩:=h
   exact⟨upto1 hu eC h1,rfl,c⟩
  ·trivial
  ·exact h.elim
 refine t_bd (λc1=>key (q:=true) (by intro h;cases h)) λc1=>?_
 exact key λh=>⟨by omega,by have:=of_decide_eq_false h;omega⟩
theorem sJF12_22 {d:G75} {a b k n:Int} {q:Bool} (hm:big75 d) (b0:0<=k) (b1:k<n) (hn:n<=maxLen) (h:q=false->ln d.ff<=5/\ln d.fm<=5/\d.fax.size<=300):Tot (JF12_22 d a b k q) (λr=>match r with
  |.inl (_,_,i)=>mOK d/\i=k+1
  |.inr (.inl _)=>True
  |.inr (.inr _)=>False):=by
 unfold JF12_22
 refine Xc (λc=>Xd trivial) λc=>?_
 have h:=h c
 refine Xb (t_cnt (λx=>match x with|(_,_,k)=>k) (ln d.ff) (bSm hm.ff) (λx=>match x with|(_,_,k)=>upto d.ff cOK k) (T:=λr=>match r with|.inl _=>True|.inr _=>∀ y∈d.ff.es,cOK y) tB ln_nn upto0 ?_) ?_
 ·rintro⟨x,y,k⟩ hu h0 _
  refine(sLF12_33 hm h0 hu).mono ?_
  rintro(⟨_,_,i⟩|r|r) h<;>exact h
 ·rintro(r|⟨x,y⟩) h2
  ·exact Xd trivial
  ·show Tot (JF12_18 k x y) _
   unfold JF12_18
   refine Xd ?_
   dsimp only
   rw[wi1 b0 b1 hn]
   exact⟨⟨h,h2⟩,rfl⟩
theorem sLF12_14 {v0:G27} {a b k:Int} (hb:big27 v0) (b0:0<=k) (hu:upto v0.fc mOK k):Tot (LF12_14 v0 a b k) (λr=>match r with
  |.inl (_,_,i)=>upto v0.fc mOK i/\i=k+1/\k<ln v0.fc
  |.inr (.inl _)=>True
  |.inr (.inr _)=>∀ y∈v0.fc.es,mOK y):=by
 unfold LF12_14
 refine t_bd (λc=>?_) λc=>Xd (uptoE hu (by omega))
 refine Xb (bsx hb.fc b0 c) λM hM=>?_
 have key:∀ {q:Bool},(q=false->ln M.ff<=5/\ln M.fm<=5/\M.fax.size<=300)->Tot (JF12_22 M a b k q) (λr=>match r with
   |.inl (_,_,i)=>upto v0.fc mOK i/\i=k+1/\k<ln v0.fc
   |.inr (.inl _)=>True
   |.inr (.inr _)=>∀ y∈v0.fc.es,mOK y):=λhq=>by
  refine(sJF12_22 hM.1 b0 c (bSm hb.fc) hq).mono ?_
  rintro(⟨_,_,i⟩|r|r) h
  ·obtain⟨h1,rfl⟩:=h
   exact⟨upto1 hu hM.2 h1,rfl,c⟩
  ·trivial
  ·exact h.elim
 refine t_bd (λc1=>key (q:=true) (by intro h;cases h)) λc1=>?_
 refine t_bd (λc2=>key (q:=true) (by intro h;cases h)) λc2=>?_
 exact key λh=>⟨by omega,by omega,by have:=of_decide_eq_false h;simp only[lns]at this;omega⟩
theorem sLF12_87 {v0:G27} {k:Int} (hb:big27 v0) (b0:0<=k) (hu:upto v0.fi pOK k):Tot (LF12_87 v0 k) (λr=>match r with
  |.inl i=>upto v0.fi pOK i/\i=k+1/\k<ln v0.fi
  |.inr (.inl _)=>True
  |.inr (.inr _)=>∀ y∈v0.fi.es,pOK y):=by
 unfold LF12_87
 refine t_bd (λc=>?_) λc=>Xd (uptoE hu (by omega))
 obtain⟨p,ep,hp⟩:=bsx hb.fi b0 c
 rw[ep]
 simp only[Option.bind_some]
 have key:∀ {q:Bool},(q=false->pOK p)->Tot (JF12_90 k q) (λr=>match r with
   |.inl i=>upto v0.fi pOK i/\i=k+1/\k<ln v0.fi
   |.inr (.inl _)=>True
   |.inr (.inr _)=>∀ y∈v0.fi.es,pOK y):=λ{q} hq=>by
  unfold JF12_90
  refine Xc (λ_=>Xd trivial) λc1=>Xd ?_
  dsimp only
  rw[wi1 b0 c (bSm hb.fi)]
  exact⟨upto1 hu ep (hq c1),rfl,c⟩
 refine t_bd (λc1=>key (q:=true) (by intro h;cases h)) λc1=>?_
 exact key λh=>⟨by omega,by have:=of_decide_eq_false h;simp only[lns]at this;omega⟩
theorem sF12 {v0:G27} (hb:big27 v0):Tot (F12 v0) (λb=>b=true->okG27 v0):=by
 unfold F12
 refine Xb (t_cnt (λ(k:Int)=>k) (ln v0.fi) (bSm hb.fi) (λk=>upto v0.fi pOK k) (T:=λr=>match r with|.inl _=>True|.inr _=>∀ y∈v0.fi.es,pOK y) tB ln_nn upto0 ?_) ?_
 ·intro k hu h0 _
  refine(sLF12_87 hb h0 hu).mono ?_
  rintro(i|r|r) h<;>exact h
 rintro(r|r) hp
 ·exact Xd (by intro h;cases h)
 show Tot (JF12_1 v0) _
 unfold JF12_1
 refine Xb (t_cnt (λx=>match x with|(_,_,k)=>k) (ln v0.fc) (bSm hb.fc) (λx=>match x with|(_,_,k)=>upto v0.fc mOK k) (T:=λr=>match r with|.inl _=>True|.inr _=>∀ y∈v0.fc.es,mOK y) tB ln_nn upto0 ?_) ?_
 ·rintro⟨x,y,k⟩ hu h0 _
  refine(sLF12_14 hb h0 hu).mono ?_
  rintro(⟨_,_,i⟩|r|r) h<;>exact h
 rintro(r|r) hm
 ·exact Xd (by intro h;cases h)
 show Tot (JF12_2 v0) _
 unfold JF12_2
 refine t_bd (λc1=>?_) λ_=>Xd (by intro h;cases h)
 refine t_bd (λc2=>?_) λ_=>Xd (by intro h;cases h)
 refine t_bd (λc3=>?_) λ_=>Xd (by intro h;cases h)
 refine t_bd (λc4=>?_) λ_=>Xd (by intro h;cases h)
 refine Xd λc5=>?_
 have c5:=of_decide_eq_true c5
 simp only[lns]at c5
 have ev:∀ x,eOK x->okG147 x:=λx h=>⟨.tr (by have:=h.1;omega),.tr (by have:=h.2.1;omega),⟨by have:=h.2.2.1;omega,λy hy=>⟨by have:=h.2.2.2 y hy;unfold sOK at this;unfold OkB;omega⟩⟩⟩
 have vo:∀ x,vOK x->okG100 x:=λx h=>⟨⟨by have:=h.1.1;omega,λy hy=>ev y (h.1.2 y hy)⟩,.tr h.2⟩
 have ce:∀ x,cOK x->okG95 x:=λx h=>⟨.tr (by have:=h.1;omega),h.2.1,λy hy=>vo y (h.2.2 y hy)⟩
 have me:∀ x∈v0.fc.es,okG75 x:=λx hx=>by
  have h:=hm x hx
  exact⟨(hb.fc.2 x hx).fX,by have:=h.1.2.2;unfold OkB;omega,.tr (by have:=h.1.2.1;omega),h.1.1,λy hy=>ce y (h.2 y hy)⟩
 exact⟨by unfold OkB;omega,⟨c1,λx hx=>⟨by have:=(hp x hx).2;unfold OkB;omega,.tr (hp x hx).1⟩⟩,⟨c2,me⟩,.tr c3,.tr c4⟩
end Go.Proofs.YtibndgdocbbbeaaGreat
