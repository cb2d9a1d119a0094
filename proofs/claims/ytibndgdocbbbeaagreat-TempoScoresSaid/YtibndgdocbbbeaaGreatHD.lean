/- A part of the proof. -/
import Derived.Test.YtibndgdocbbbeaaGreatHF
import Derived.Test.YtibndgdocbbbeaaGreatHA
import Derived.Test.YtibndgdocbbbeaaGreatE1
import Derived.Shelf.Spec.BitsCarry
set_option linter.all false
namespace Go.Proofs.YtibndgdocbbbeaaGreat
open Go.PE Go.RowKit
set_option maxHeartbeats 2000000 in
set_option maxRecDepth 100000 in
theorem div64C (l n:Int) (h0:0<=l) (h1:l<18446744073709551616) (n0:0<n) (n1:n<18446744073709551616) (w:World):
  Calls Tryz.prog 92 #[.int .u64 0,.int .u64 l,.int .u64 n] w λe w'=>e=.returned (.tuple #[.int .u64 (l / n),.int .u64 (l%n)])/\Below w.heap.size w w':=by
 have a1:¬ n=0:=by omega
 have a2:¬ n<=0:=by omega
 have a3:Int.tdiv l n=l / n:=Int.tdiv_eq_ediv_of_nonneg h0
 have a4:Int.tmod l n=l%n:=Int.tmod_eq_emod_of_nonneg h0
 have b0:0<=l / n:=Int.ediv_nonneg h0 (by omega)
 have b1:l / n<18446744073709551616:=Int.lt_of_le_of_lt (Int.ediv_le_self n h0) h1
 have b2:IntKind.u64.wrap (l / n)=l / n:=by
  show(l / n)%18446744073709551616=l / n
  exact Int.emod_eq_of_lt b0 b1
 go_enter Tryz.func92,Tryz.ntmps92
 go_wp2_with fail
 go_quiet (fail)
 go_wp2_with fail
 go_ret2
 exact⟨rfl,rfl,rfl,rfl,Nat.le_refl _,λ_ _=>rfl⟩
theorem three {g:Gh} {k:IntKind} {a b c:Int} {vs:Array Value} (hL:LR g [.sc (.int k a),.sc (.int k b),.sc (.int k c)] vs):vs=#[.int k a,.int k b,.int k c]:=by
 have hn:vs.size=3:=hL.1.symm
 apply Array.ext (by simpa using hn)
 intro i hi hj
 have h3:i<3:=by omega
 match i,h3 with
 |0,_=>exact(Yr (hL.2 0 _ _ rfl (Array.getElem?_eq_getElem hi))).1
 |1,_=>exact(Yr (hL.2 1 _ _ rfl (Array.getElem?_eq_getElem hi))).1
 |2,_=>exact(Yr (hL.2 2 _ _ rfl (Array.getElem?_eq_getElem hi))).1
theorem two_rv {g:Gh} {k:IntKind} {a b:Int}:RV g (.tup [.sc (.int k a),.sc (.int k b)]) (.tuple #[.int k a,.int k b]):=.tup rfl λi p v hp hv=>by
 match i,hp,hv with
 |0,hp,hv=>simp at hp hv;subst hp hv;exact .sc rfl
 |1,hp,hv=>simp at hp hv;subst hp hv;exact .sc rfl
 |i+2,hp,hv=>simp at hp
theorem CF92 {v0 v1 v2 out} (hF:F92 v0 v1 v2=some out):ACall Tryz.prog 92 [.sc (.int .u64 v0),.sc (.int .u64 v1),.sc (.int .u64 v2)] [] λq k=>q=.tup [.sc (.int .u64 out.1),.sc (.int .u64 out.2)]/\k=[]:=by
 unfold F92 at hF
 rcases cor hF with ⟨c,hF⟩|⟨_,hF⟩
 ·cases hF
  simp only[Bool.and_eq_true,decide_eq_true_eq]at c
  obtain⟨⟨⟨⟨h0,h1⟩,l0⟩,l1⟩,n1⟩:=c
  refine acall_via Tryz.func92 (by kernel_rfl) λg w vs _ hL=>?_
  rw[three hL]
  by_cases z:v0=0
  ·subst z
   rw[Int.zero_mul,Int.zero_add]
   refine(div64C v1 v2 l0 l1 (by omega) n1 w).mono ?_
   rintro e w' ⟨rfl,hb⟩
   exact⟨hb,_,rfl,λg' _ _=>two_rv⟩
  ·refine(div64_big v0 v1 v2 w (by omega) h1 (by omega) l0 (by omega)).mono ?_
   rintro e w' ⟨rfl,rfl⟩
   exact⟨⟨rfl,rfl,rfl,Nat.le_refl _,λ_ _=>rfl⟩,_,rfl,λg' _ _=>two_rv⟩
 ·cases hF
theorem run177 (x y c:Nat) (hc:c<=1) (w:World):(callFunc 177 #[.int .u64 x,.int .u64 y,.int .u64 c]).run Tryz.prog w=.ok (.value (.tuple #[.int .u64 (((x+y+c)%18446744073709551616:Nat):Int),.int .u64 (((x+y+c) / 18446744073709551616:Nat):Int)])) w:=by
 rw[run_callFunc_extern Tryz.func177 (by kernel_rfl) (by kernel_rfl) (by kernel_rfl) (e:=add64Entry) (by kernel_rfl),run_add64 x y c (by omega) (by omega) (by omega) (by omega)]
 simp only[Result.andThen]
 congr 5<;>omega
theorem run178 (x y b:Nat) (hb:b<=1) (w:World):(callFunc 178 #[.int .u64 x,.int .u64 y,.int .u64 b]).run Tryz.prog w=.ok (.value (.tuple #[.int .u64 (((x+18446744073709551616-y-b)%18446744073709551616:Nat):Int),.int .u64 ((if x<y+b then 1 else 0:Nat):Int)])) w:=by
 rw[run_callFunc_extern Tryz.func178 (by kernel_rfl) (by kernel_rfl) (by kernel_rfl) (e:=sub64Entry) (by kernel_rfl),run_sub64 x y b hb]
 rfl
def k177 {v0 v1 v2 out} (hF:F177 v0 v1 v2=some out):BN Tryz.prog:=⟨.ca 177 [.sc (.int .u64 v0),.sc (.int .u64 v1),.sc (.int .u64 v2)] (.tup [.sc (.int .u64 out.1),.sc (.int .u64 out.2)]),λF=>by
 unfold F177 at hF
 rcases cor hF with ⟨c,hF⟩|⟨_,hF⟩
 ·cases hF
  simp only[Bool.and_eq_true,decide_eq_true_eq]at c
  obtain⟨⟨⟨h0,h1⟩,h2⟩,h3⟩:=c
  obtain⟨x,rfl⟩:=Int.eq_ofNat_of_zero_le h0
  obtain⟨y,rfl⟩:=Int.eq_ofNat_of_zero_le h1
  obtain⟨z,rfl⟩:=Int.eq_ofNat_of_zero_le h2
  refine .inr λg w vs hL=>?_
  rw[three hL]
  refine⟨_,_,run177 x y z (by omega) w,⟨rfl,rfl⟩,?_⟩
  have e1:((x:Int)+y+z)%18446744073709551616=(((x+y+z)%18446744073709551616:Nat):Int):=by omega
  have e2:((x:Int)+y+z) / 18446744073709551616=(((x+y+z) / 18446744073709551616:Nat):Int):=by omega
  rw[e1,e2]
  exact two_rv
 ·cases hF⟩
def k178 {v0 v1 v2 out} (hF:F178 v0 v1 v2=some out):BN Tryz.prog:=⟨.ca 178 [.sc (.int .u64 v0),.sc (.int .u64 v1),.sc (.int .u64 v2)] (.tup [.sc (.int .u64 out.1),.sc (.int .u64 out.2)]),λF=>by
 unfold F178 at hF
 rcases cor hF with ⟨c,hF⟩|⟨_,hF⟩
 ·cases hF
  simp only[Bool.and_eq_true,decide_eq_true_eq]at c
  obtain⟨⟨⟨⟨h0,h1⟩,h4⟩,h2⟩,h3⟩:=c
  obtain⟨x,rfl⟩:=Int.eq_ofNat_of_zero_le h0
  obtain⟨y,rfl⟩:=Int.eq_ofNat_of_zero_le h1
  obtain⟨z,rfl⟩:=Int.eq_ofNat_of_zero_le h2
  refine .inr λg w vs hL=>?_
  rw[three hL]
  refine⟨_,_,run178 x y z (by omega) w,⟨rfl,rfl⟩,?_⟩
  have e1:((x:Int)+18446744073709551616-y-z)%18446744073709551616=(((x+18446744073709551616-y-z)%18446744073709551616:Nat):Int):=by omega
  have e2:(if (x:Int)<y+z then (1:Int)else 0)=((if x<y+z then 1 else 0:Nat):Int):=by
   by_cases h:x<y+z
   ·rw[if_pos h,if_pos (by omega)];rfl
   ·rw[if_neg h,if_neg (by omega)];rfl
  rw[e1,e2]
  exact two_rv
 ·cases hF⟩
end Go.Proofs.YtibndgdocbbbeaaGreat
