/- A part of the proof. -/
import Derived.Test.YtibndgdocbbbeaaGreatPE18
import Derived.Test.YtibndgdocbbbeaaGreatSY10
import Derived.Test.YtibndgdocbbbeaaGreatFB
import Derived.Shelf.Spec.BitsCarry
import Derived.KernelRfl
set_option linter.all false
namespace Go.Proofs.YtibndgdocbbbeaaGreat
open Go.PE Go.RowKit
set_option maxRecDepth 100000
set_option maxHeartbeats 4000000
def tabC (P:Program):FuncId->Option AF:=λf=>match P.funcs[f]? with
 |some fn=>(match okF P fn with
  |true=>some ⟨fn.ntmps,acOf P fn,rsOf P fn⟩
  |false=>none)
 |none=>none
theorem tabC_ok {P:Program}:TabOk P (tabC P):=by
 intro f af h
 unfold tabC at h
 split at h
 ·rename_i fn hf
  split at h
  ·rename_i hk
   cases h
   unfold okF at hk
   split at hk
   ·rename_i c hc
    simp only[Bool.and_eq_true,bne_iff_ne,ne_eq]at hk
    obtain⟨⟨h1,h2⟩,h3⟩:=hk
    obtain⟨a,ha⟩:=Option.isSome_iff_exists.1 h1
    obtain⟨r,hr⟩:=Option.isSome_iff_exists.1 h2
    refine⟨fn,c,hf,h3,hc,?_,?_,rfl⟩
    ·simp only[acOf,hc,ha,Option.getD_some]
    ·simp only[rsOf,hr,Option.getD_some]
   ·cases hk
  ·cases h
 ·cases h
def add64 (args:List PV):Option PV:=match args with
 |[.sc (.int .u64 (.ofNat x)),.sc (.int .u64 (.ofNat y)),.sc (.int .u64 (.ofNat c))]=>(match Nat.ble c 1 with
  |true=>some (.tup [.sc (.int .u64 (.ofNat (Nat.mod (Nat.add (Nat.add x y) c) 18446744073709551616))),.sc (.int .u64 (.ofNat (Nat.div (Nat.add (Nat.add x y) c) 18446744073709551616)))])
  |false=>none)
 |_=>none
def preA (n:Nat) (pre:FuncId->List PV->Option PV):FuncId->List PV->Option PV:=λf args=>match Nat.beq f n with
 |true=>add64 args
 |false=>pre f args
theorem preA_ok {P:Program} {n:Nat} {pre:FuncId->List PV->Option PV} (hp:PreOk P pre)
  (hA:∀ (x y c:Nat),c<=1->∀ w,(callFunc n #[.int .u64 x,.int .u64 y,.int .u64 c]).run P w=.ok (.value (.tuple #[.int .u64 (((x+y+c)%18446744073709551616:Nat):Int),.int .u64 (((x+y+c) / 18446744073709551616:Nat):Int)])) w):PreOk P (preA n pre):=by
 intro f args r h H
 unfold preA at h
 split at h
 ·rename_i hf
  have hf:f=n:=Nat.eq_of_beq_eq_true hf
  subst hf
  unfold add64 at h
  split at h
  ·rename_i x y c
   split at h
   ·rename_i hc
    have hc:c<=1:=Nat.le_of_ble_eq_true hc
    cases h
    refine .inr λg w vs hL=>?_
    have e:vs=#[.int .u64 x,.int .u64 y,.int .u64 c]:=by
     have hn:vs.size=3:=by rw[<-hL.1];rfl
     apply Array.ext
     ·simpa using hn
     ·intro i h1 h2
      have hi:i<3:=by omega
      match i,hi with
      |0,_=>exact(Yr (hL.2 0 _ _ rfl (Array.getElem?_eq_getElem h1))).1
      |1,_=>exact(Yr (hL.2 1 _ _ rfl (Array.getElem?_eq_getElem h1))).1
      |2,_=>exact(Yr (hL.2 2 _ _ rfl (Array.getElem?_eq_getElem h1))).1
    rw[e]
    refine⟨_,_,hA x y c hc w,⟨rfl,rfl⟩,.tup rfl λi p v hp hv=>?_⟩
    match i,hp,hv with
    |0,hp,hv=>simp at hp hv;subst hp;subst hv;exact .sc rfl
    |1,hp,hv=>simp at hp hv;subst hp;subst hv;exact .sc rfl
    |i+2,hp,hv=>simp at hp
   ·cases h
  ·cases h
 ·exact hp f args r h H
theorem hOk0 (P:Program):HOk P []:=λk env ps ai bd cA cB st pend h=>by simp at h
def F11:Option Bool:=some true
theorem addC (x y c:Nat) (hc:c<=1) (w:World):(callFunc 177 #[.int .u64 x,.int .u64 y,.int .u64 c]).run Tryz.prog w=.ok (.value (.tuple #[.int .u64 (((x+y+c)%18446744073709551616:Nat):Int),.int .u64 (((x+y+c) / 18446744073709551616:Nat):Int)])) w:=by
 rw[run_callFunc_extern Tryz.func177 (by kernel_rfl) (by kernel_rfl) (by kernel_rfl) (e:=add64Entry) (by kernel_rfl),run_add64 x y c (by omega) (by omega) (by omega) (by omega)]
 simp only[Result.andThen]
 congr 5<;>omega
def pre1:FuncId->List PV->Option PV:=preA 177 λ_ _=>none
theorem pre1_ok:PreOk Tryz.prog pre1:=preA_ok (preNone _) addC
theorem runK:(match evF pre1 (tabC Tryz.prog) 200 false (.fn 11 true) [] []with|some (.sc (.bool true),[],_)=>true|_=>false)=true:=by kernel_rfl
theorem CF11 {out} (hF:F11=some out):A0 11 [] (bP out):=by
 obtain rfl:=Option.some.inj hF
 have h:=runK
 split at h
 ·rename_i lo he
  exact(evF_sound mixed pre1_ok tabC_ok 200 false (.fn 11 true) [] [] _ _ _ (hOk0 _) he).1
 ·cases h
end Go.Proofs.YtibndgdocbbbeaaGreat
