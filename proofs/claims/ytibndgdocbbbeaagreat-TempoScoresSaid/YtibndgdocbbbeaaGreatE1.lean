/- A part of the proof. -/
import Derived.IntWalk
import Derived.Laws.BitsAllLaws
import Derived.Lib.BitFns
import Derived.Lib.ItoaNum
import Derived.Shelf.Small.Bits
import Derived.Test.YtibndgdocbbbeaaGreatProg
import Derived.WalkKit
import Derived.WalkSpells
import Derived.WalkLawsBesides
import Derived.Handy
import Derived.Lib.Hide
import Derived.Deep.DeepCutAuto
import Derived.Deep.CutBlock
set_option linter.all false
namespace Go.Proofs.YtibndgdocbbbeaaGreat
structure Est (u d y1 y0 q r:Int):Prop where
 u0:0<=u
 uy:u<y1*4294967296+y0
 d0:0<=d
 d1:d<4294967296
 y1l:2147483648<=y1
 y1h:y1<4294967296
 y0l:0<=y0
 y0h:y0<4294967296
 r0:0<=r
 rq:u=q*y1+r
 qlo:(u*4294967296+d) / (y1*4294967296+y0)<=q
 qhi:q<=4294967297
variable {u d y1 y0 q r:Int}
theorem Est.Q (h:Est u d y1 y0 q r):0<=(u*4294967296+d) / (y1*4294967296+y0)/\(u*4294967296+d) / (y1*4294967296+y0)<=4294967295:=by
 obtain⟨a1,a2,a3,a4,a5,a6,a7,a8,_,_,_,_⟩:=h
 have hy:0<y1*4294967296+y0:=by omega
 refine⟨Int.ediv_nonneg (by omega) (by omega),?_⟩
 have:(u*4294967296+d) / (y1*4294967296+y0)<4294967296:=by
  apply (Int.ediv_lt_iff_lt_mul hy).2
  have:4294967296*(y1*4294967296+y0)>=4294967296*(u+1):=Int.mul_le_mul_of_nonneg_left (by omega) (by omega)
  omega
 omega
theorem est_first (h0:0<=u) (hu:u<y1*4294967296+y0) (hd:0<=d) (hd1:d<4294967296) (a:2147483648<=y1) (b:y1<4294967296) (c:0<=y0) (e:y0<4294967296):
  Est u d y1 y0 (u / y1) (u-u / y1*y1)/\u-u / y1*y1<y1:=by
 have hm:=Int.emod_add_mul_ediv u y1
 have hn:=Int.emod_nonneg u (show y1≠0 by omega)
 have hl:=Int.emod_lt_of_pos u (show 0<y1 by omega)
 have hr:u-u / y1*y1=u%y1:=by rw[Int.mul_comm];omega
 refine⟨⟨h0,hu,hd,hd1,a,b,c,e,by omega,by omega,?_,?_⟩,by omega⟩
 ·
  have hy:0<y1*4294967296+y0:=by omega
  have:(u*4294967296+d) / (y1*4294967296+y0)<u / y1+1:=by
   apply (Int.ediv_lt_iff_lt_mul hy).2
   have h1:u+1<=(u / y1+1)*y1:=by rw[Int.add_mul,Int.one_mul,Int.mul_comm];omega
   have h2:(u+1)*4294967296<=(u / y1+1)*y1*4294967296:=Int.mul_le_mul_of_nonneg_right h1 (by omega)
   have h3:0<=(u / y1+1)*y0:=Int.mul_nonneg (by have:=Int.ediv_nonneg h0 (show 0<=y1 by omega);omega) c
   have h4:(u / y1+1)*(y1*4294967296+y0)=(u / y1+1)*y1*4294967296+(u / y1+1)*y0:=by rw[Int.mul_add,Int.mul_assoc]
   omega
  omega
 ·have:u / y1<4294967298:=by
   apply (Int.ediv_lt_iff_lt_mul (by omega)).2
   omega
  omega
theorem Est.gt (h:Est u d y1 y0 q r) (hc:4294967296<=q\/r*4294967296+d<q*y0):(u*4294967296+d) / (y1*4294967296+y0)<=q-1:=by
 have hQ:=h.Q
 rcases hc with hc|hc
 ·omega
 ·have hy:0<y1*4294967296+y0:=by have:=h.y1l;have:=h.y0l;omega
  have:(u*4294967296+d) / (y1*4294967296+y0)<q:=by
   apply (Int.ediv_lt_iff_lt_mul hy).2
   have h4:q*(y1*4294967296+y0)=q*y1*4294967296+q*y0:=by rw[Int.mul_add,Int.mul_assoc]
   have:=h.rq
   omega
  omega
theorem Est.down (h:Est u d y1 y0 q r) (hc:4294967296<=q\/r*4294967296+d<q*y0):Est u d y1 y0 (q-1) (r+y1):=by
 have hg:=h.gt hc
 obtain⟨a1,a2,a3,a4,a5,a6,a7,a8,a9,a10,a11,a12⟩:=h
 refine⟨a1,a2,a3,a4,a5,a6,a7,a8,by omega,?_,hg,by omega⟩
 have:(q-1)*y1=q*y1-y1:=by rw[Int.sub_mul,Int.one_mul]
 omega
theorem Est.eq_of_not (h:Est u d y1 y0 q r) (hc:q*y0<=r*4294967296+d):q=(u*4294967296+d) / (y1*4294967296+y0):=by
 have hy:0<y1*4294967296+y0:=by have:=h.y1l;have:=h.y0l;omega
 have:q<=(u*4294967296+d) / (y1*4294967296+y0):=by
  apply (Int.le_ediv_iff_mul_le hy).2
  have h4:q*(y1*4294967296+y0)=q*y1*4294967296+q*y0:=by rw[Int.mul_add,Int.mul_assoc]
  have:=h.rq
  omega
 have:=h.qlo
 omega
theorem Est.eq_of_big (h:Est u d y1 y0 q r) (hr:4294967296<=r) (hq:q<=4294967296):q=(u*4294967296+d) / (y1*4294967296+y0):=by
 apply h.eq_of_not
 have h0:=h.Q.1
 have hq0:0<=q:=by have:=h.qlo;omega
 have h1:q*y0<=4294967296*y0:=Int.mul_le_mul_of_nonneg_right hq h.y0l
 have h2:4294967296*y0<=4294967296*4294967295:=Int.mul_le_mul_of_nonneg_left (by have:=h.y0h;omega) (by omega)
 have:=h.d0
 omega
end Go.Proofs.YtibndgdocbbbeaaGreat
namespace Go.Proofs.YtibndgdocbbbeaaGreat
theorem mask32 (x:Int) (h0:0<=x) (h1:x<18446744073709551616):bits .and .u64 x 4294967295=x%4294967296:=by
 obtain⟨n,rfl⟩:=Int.eq_ofNat_of_zero_le h0
 rw[u64_and _ _ (by omega) h1 (by omega) (by omega)]
 have e:(4294967295:Int).toNat=2^32-1:=rfl
 rw[e,Int.toNat_natCast,Nat.and_two_pow_sub_one_eq_mod]
 omega
theorem or_add (a b:Int) (s:Nat) (ha:0<=a) (hb:0<=b) (hb2:b<2^s) (h:a*2^s+b<18446744073709551616):bits .or .u64 (a*2^s) b=a*2^s+b:=by
 obtain⟨a,rfl⟩:=Int.eq_ofNat_of_zero_le ha
 obtain⟨b,rfl⟩:=Int.eq_ofNat_of_zero_le hb
 have hb3:b<2^s:=by
  have:((b:Nat):Int)<((2^s:Nat):Int):=by simpa using hb2
  omega
 have e:((a:Int)*2^s)=((a*2^s:Nat):Int):=by simp
 rw[e]at h ⊢
 rw[u64_or _ _ (by omega) (by omega) (by omega) (by omega),Int.toNat_natCast,Int.toNat_natCast,Nat.mul_comm a,<-Nat.two_pow_add_eq_or_of_lt hb3]
 simp
theorem shifted (hi lo:Int) (s:Nat) (hs:s<=63) (l0:0<=lo) (l1:lo<18446744073709551616):
  0<=lo / 2^(64-s)/\lo / 2^(64-s)<2^s/\(hi*18446744073709551616+lo)*2^s=(hi*2^s+lo / 2^(64-s))*18446744073709551616+lo*2^s%18446744073709551616:=by
 obtain⟨lo,rfl⟩:=Int.eq_ofNat_of_zero_le l0
 have hp:2^(64-s)*2^s=18446744073709551616:=by rw[<-Nat.pow_add,show 64-s+s=64 by omega]
 have h1:lo / 2^(64-s)<2^s:=by
  apply (Nat.div_lt_iff_lt_mul (Nat.pow_pos (by omega))).2
  rw[Nat.mul_comm,hp];omega
 have h2:lo*2^s / 18446744073709551616=lo / 2^(64-s):=by
  rw[<-hp,Nat.mul_div_mul_right _ _ (Nat.pow_pos (by omega))]
 have c1:((lo:Int) / 2^(64-s))=((lo / 2^(64-s):Nat):Int):=by simp
 have c2:((lo:Int)*2^s)=((lo*2^s:Nat):Int):=by simp
 have c3:((2:Int)^s)=((2^s:Nat):Int):=by simp
 refine⟨by rw[c1];omega,by rw[c1,c3];omega,?_⟩
 have h3:=Nat.mod_add_div (lo*2^s) 18446744073709551616
 rw[h2]at h3
 have h4:((lo:Int)*2^s)=(lo:Int)*2^s%18446744073709551616+18446744073709551616*((lo:Int) / 2^(64-s)):=by
  rw[c1,c2];omega
 have e1:(hi*18446744073709551616+(lo:Int))*2^s=hi*2^s*18446744073709551616+(lo:Int)*2^s:=by
  rw[Int.add_mul,Int.mul_right_comm]
 rw[e1]
 generalize (lo:Int)*2^s=X at *
 generalize hi*2^s=Z at *
 generalize (lo:Int) / 2^(64-s)=V at *
 omega
theorem digits {N y p U L Y q1 q0:Int} (hp:0<p) (hN:N*p=U*18446744073709551616+L) (hY:Y=y*p) (hy:0<y)
  (h0:0<=(U*4294967296+L / 4294967296-q1*Y)*4294967296+L%4294967296-q0*Y)
  (h2:(U*4294967296+L / 4294967296-q1*Y)*4294967296+L%4294967296-q0*Y<Y):
  q1*4294967296+q0=N / y/\((U*4294967296+L / 4294967296-q1*Y)*4294967296+L%4294967296-q0*Y) / p=N%y:=by
 have e:(U*4294967296+L / 4294967296-q1*Y)*4294967296+L%4294967296-q0*Y=(N-(q1*4294967296+q0)*y)*p:=by
  have f1:(N-(q1*4294967296+q0)*y)*p=N*p-(q1*4294967296+q0)*Y:=by rw[Int.sub_mul,hY,Int.mul_assoc]
  have f2:(q1*4294967296+q0)*Y=q1*Y*4294967296+q0*Y:=by rw[Int.add_mul,Int.mul_right_comm]
  rw[f1,f2,hN]
  omega
 rw[e]at h0 h2 ⊢
 have g0:0<=N-(q1*4294967296+q0)*y:=by
  rcases Int.lt_or_le (N-(q1*4294967296+q0)*y) 0 with h|h
  ·have:=Int.mul_neg_of_neg_of_pos h hp
   omega
  ·exact h
 have g1:N-(q1*4294967296+q0)*y<y:=by
  rw[hY]at h2
  exact Int.lt_of_mul_lt_mul_right h2 (by omega)
 have hq:N / y=q1*4294967296+q0:=by
  have:N=(N-(q1*4294967296+q0)*y)+(q1*4294967296+q0)*y:=by omega
  rw[this,Int.add_mul_ediv_right _ _ (by omega),Int.ediv_eq_zero_of_lt g0 g1]
  omega
 refine⟨hq.symm,?_⟩
 rw[Int.mul_ediv_cancel _ (by omega)]
 have:=Int.emod_add_mul_ediv N y
 rw[hq,Int.mul_comm]at this
 omega
theorem lz (y:Int) (h0:1<=y) (h1:y<=18446744073709551615):∃ s:Nat,64-(Lib.bitLen y.toNat:Int)=(s:Int)/\s<=63/\9223372036854775808<=y*2^s/\y*2^s<=18446744073709551615:=by
 obtain⟨n,rfl⟩:=Int.eq_ofNat_of_zero_le (show 0<=y by omega)
 have hb:=Lib.bitLenAux_bounds 64 n (by simp;omega) (by omega)
 obtain⟨b1,b2,b3⟩:=hb
 have b4:Lib.bitLenAux 64 n<=64:=by
  rcases Nat.lt_or_ge 64 (Lib.bitLenAux 64 n)with h|h
  ·exfalso
   have:2^64<=2^(Lib.bitLenAux 64 n-1):=Nat.pow_le_pow_right (by omega) (by omega)
   omega
  ·exact h
 refine⟨64-Lib.bitLenAux 64 n,by simp[Lib.bitLen];omega,by omega,?_,?_⟩
 ·have e:2^63=2^(Lib.bitLenAux 64 n-1)*2^(64-Lib.bitLenAux 64 n):=by rw[<-Nat.pow_add];congr 1;omega
  have:=Nat.mul_le_mul_right (2^(64-Lib.bitLenAux 64 n)) b2
  rw[<-e]at this
  have h:((2^63:Nat):Int)<=((n*2^(64-Lib.bitLenAux 64 n):Nat):Int):=by omega
  simpa using h
 ·have e:2^64=2^(Lib.bitLenAux 64 n)*2^(64-Lib.bitLenAux 64 n):=by rw[<-Nat.pow_add];congr 1;omega
  have hp:0<2^(64-Lib.bitLenAux 64 n):=Nat.pow_pos (by omega)
  have:=Nat.mul_lt_mul_of_pos_right b3 hp
  rw[<-e]at this
  have h:((n*2^(64-Lib.bitLenAux 64 n):Nat):Int)<((2^64:Nat):Int):=by omega
  have h2:(n:Int)*2^(64-Lib.bitLenAux 64 n)<18446744073709551616:=by simpa using h
  omega
end Go.Proofs.YtibndgdocbbbeaaGreat
namespace Go.Proofs
open Go.Shelf
def Tryz.lays134_ren:Go.Shelf.Ren:=⟨fun|134=>176|129=>245|n=>n,fun|53=>175|3=>3|4=>4|46=>276|5=>5|9=>9|n=>n,fun|n=>n⟩
theorem Tryz.lays134:Go.Proofs.Lays.n134 Tryz.prog Tryz.lays134_ren:={
 mixed:=by kernel_rfl
 f129:=Tryz.func245.trans (congrArg some (by kernel_rfl))
 f134:=Tryz.func176.trans (congrArg some (by kernel_rfl))
 t3:=Tryz.underlying3
 a3:=Tryz.isAgg3
 z3:=Tryz.sizeOf3
 v3:=Tryz.zeroValue3
 t4:=Tryz.underlying4
 a4:=Tryz.isAgg4
 z4:=Tryz.sizeOf4
 v4:=Tryz.zeroValue4
 t5:=Tryz.underlying5
 a5:=Tryz.isAgg5
 z5:=Tryz.sizeOf5
 v5:=Tryz.zeroValue5
 t9:=Tryz.underlying9
 a9:=Tryz.isAgg9
 z9:=Tryz.sizeOf9
 v9:=Tryz.zeroValue9
 t46:=Tryz.underlying276
 a46:=Tryz.isAgg276
 z46:=Tryz.sizeOf276
 v46:=Tryz.zeroValue276
 t53:=Tryz.underlying175
 a53:=Tryz.isAgg175
 z53:=Tryz.sizeOf175
 v53:=Tryz.zeroValue175 }
theorem Tryz.bits_LeadingZeros64 (x:Int) (w:World) (h0:0<=x) (h1:x<=18446744073709551615):
  Calls Tryz.prog 176 #[.int .u64 x] w λe w'=>e=.returned (.int .i64 (64-(Lib.bitLen x.toNat:Int)))/\w'=w:=Any.bits_LeadingZeros64 Tryz.lays134 x w h0 h1
end Go.Proofs
namespace Go.Proofs.YtibndgdocbbbeaaGreat
open Go.RowKit
theorem mul_bd {a b x y:Int} (h1:0<=a) (h2:a<=x) (h3:0<=b) (h4:b<=y):0<=a*b/\a*b<=x*y:=
 ⟨Int.mul_nonneg h1 h3,Int.mul_le_mul h2 h4 h3 (by omega)⟩
set_option maxRecDepth 100000 in
set_option maxHeartbeats 2000000 in
theorem div64_big (hi lo y:Int) (w:World) (h0:1<=hi) (h1:hi<y) (h2:y<=18446744073709551615) (l0:0<=lo) (l1:lo<=18446744073709551615):
  Calls Tryz.prog 92 #[.int .u64 hi,.int .u64 lo,.int .u64 y] w λe w'=>e=.returned (.tuple #[.int .u64 ((hi*18446744073709551616+lo) / y),.int .u64 ((hi*18446744073709551616+lo)%y)])/\w=w':=by
 obtain⟨s,es,s63,y63,y64⟩:=lz y (by omega) h2
 obtain⟨v1,v2,v3⟩:=shifted hi lo s s63 l0 (by omega)
 have p0:(0:Int)<2^s:=Int.pow_pos (by omega)
 have hu:hi*2^s+lo / 2^(64-s)<y*2^s:=by
  have:=Int.mul_le_mul_of_nonneg_right (show hi+1<=y by omega) (Int.le_of_lt p0)
  rw[Int.add_mul,Int.one_mul]at this
  omega
 have hu0:0<=hi*2^s:=Int.mul_nonneg (by omega) (by omega)
 have w1:IntKind.u64.wrap (hi*2^s)=hi*2^s:=IntWalk.u64_in _ (by omega)
 have w2:bits .or .u64 (hi*2^s) (lo / 2^(64-s))=hi*2^s+lo / 2^(64-s):=or_add hi _ s (by omega) v1 v2 (by omega)
 have w3:IntKind.u64.wrap (lo*2^s)=lo*2^s%18446744073709551616:=by rw[IntKind.wrap_u64]
 generalize hU:hi*2^s+lo / 2^(64-s)=U at *
 generalize hL:lo*2^s%18446744073709551616=L at *
 have L0:0<=L:=by omega
 have L1:L<=18446744073709551615:=by omega
 have U0:0<=U:=by omega
 generalize hY:y*2^s=Y at *
 have m1:bits .and .u64 Y 4294967295=Y%4294967296:=mask32 Y (by omega) (by omega)
 have m2:bits .and .u64 L 4294967295=L%4294967296:=mask32 L (by omega) (by omega)
 obtain⟨est,est2⟩:=est_first (u:=U) (d:=L / 4294967296) (y1:=Y / 4294967296) (y0:=Y%4294967296) U0 (by omega) (by omega) (by omega) (by omega) (by omega) (by omega) (by omega)
 have hYY:Y / 4294967296*4294967296+Y%4294967296=Y:=by omega
 have t1:0<=U / (Y / 4294967296)*(Y / 4294967296)/\U / (Y / 4294967296)*(Y / 4294967296)<=U:=by have:=est.r0;have:=est.rq;have:=Int.mul_nonneg (Int.ediv_nonneg U0 (show 0<=Y / 4294967296 by omega)) (show 0<=Y / 4294967296 by omega);omega
 have t2:0<=U / (Y / 4294967296):=Int.ediv_nonneg U0 (by omega)
 have t3:U / (Y / 4294967296)<=4294967297:=est.qhi
 generalize hy1:Y / 4294967296=y1 at *
 generalize hy0:Y%4294967296=y0 at *
 generalize hd1:L / 4294967296=d1 at *
 generalize hd0:L%4294967296=d0 at *
 have by1:2147483648<=y1/\y1<=4294967295:=by omega
 have by0:0<=y0/\y0<=4294967295:=by omega
 have bd1:0<=d1/\d1<=4294967295:=by omega
 have bd0:0<=d0/\d0<=4294967295:=by omega
 have ES:=Lib.hid es
 have EST:=Lib.hid est
 have EST2:=Lib.hid est2
 have HYY:=Lib.hid hYY
 have V3:=Lib.hid v3
 have HY:=Lib.hid hY.symm
 clear es est est2 hYY v3 v1 v2 hu0
 have e1:(y==0)=false:=beq_eq_false_iff_ne.2 (by omega)
 have e2:decide (y<=hi)=false:=decide_eq_false (by omega)
 have e3:(hi==0)=false:=beq_eq_false_iff_ne.2 (by omega)
 go_enter Tryz.func92,Tryz.ntmps92
 go_wp2_with fail
 refine(Tryz.bits_LeadingZeros64 _ _ (by omega) h2).mono ?_;rintro e w1 ⟨rfl,rfl⟩
 rw[ES.out]
 go_upto_block 0 with (fail)
 go_cut [15] (λq wc=>q=.int .u64 ((U*4294967296+d1) / (y1*4294967296+y0))/\w1=wc)
 case first=>
  go_wp2_with fail
  go_loop [15,16] (λq r=>∃ q' r':Int,q=.int .u64 q'/\r=.int .u64 r'/\Hid (Est U d1 y1 y0 q' r')/\0<=r'/\r'<=4294967295/\0<=q'/\q'<=4294967297) (λq _=>(intOf q).toNat)
  case atStart=>exact⟨_,_,rfl,rfl,EST,by have:=EST.out.r0;omega,by have:=EST2.out;omega,by omega,by omega⟩
  case round=>
   obtain⟨q,r,rfl,rfl,hE,r0,r1,q0,q1⟩:=hrel
   have key:(q<4294967296/\q*y0<=4294967296*r+d1)\/((4294967296<=q\/r*4294967296+d1<q*y0)/\(4294967296<=q\/(q<4294967296/\4294967296*r+d1<q*y0))):=by omega
   rcases key with ⟨k1,k2⟩|⟨k1,k2⟩
   ·have pm:=mul_bd (a:=q) (b:=y0) (x:=4294967295) (y:=4294967295) q0 (by omega) by0.1 by0.2
    have hq:=Lib.hid (hE.out.eq_of_not (by omega))
    have g1:decide (4294967296<=q)=false:=decide_eq_false (by omega)
    have g2:decide (4294967296*r+d1<q*y0)=false:=decide_eq_false (by omega)
    go_wp2_with fail
    go_meet
    exact⟨by rw[hq.out],rfl⟩
   ·have hE2:=Lib.hid (hE.out.down k1)
    have hQ0:=hE.out.Q
    have hgt:=hE.out.gt k1
    have qp:0<=q-1:=by omega
    clear hQ0 hgt k1
    by_cases hb:r+y1<4294967296
    ·rcases k2 with k2|⟨k2,k3⟩
     ·go_wp2_with fail
      go_round
      case rel=>exact⟨q-1,r+y1,rfl,rfl,hE2,by omega,by omega,by omega,by omega⟩
      case measure=>simp[intOf];omega
     ·have pm:=mul_bd (a:=q) (b:=y0) (x:=4294967295) (y:=4294967295) q0 (by omega) by0.1 by0.2
      have g1:decide (4294967296<=q)=false:=decide_eq_false (by omega)
      have g2:decide (4294967296*r+d1<q*y0)=true:=decide_eq_true (by omega)
      go_wp2_with fail
      go_round
      case rel=>exact⟨q-1,r+y1,rfl,rfl,hE2,by omega,by omega,by omega,by omega⟩
      case measure=>simp[intOf];omega
    ·have hq:=Lib.hid (hE2.out.eq_of_big (by omega) (by omega))
     rcases k2 with k2|⟨k2,k3⟩
     ·go_wp2_with fail
      go_meet
      exact⟨by rw[hq.out],rfl⟩
     ·have pm:=mul_bd (a:=q) (b:=y0) (x:=4294967295) (y:=4294967295) q0 (by omega) by0.1 by0.2
      have g1:decide (4294967296<=q)=false:=decide_eq_false (by omega)
      have g2:decide (4294967296*r+d1<q*y0)=true:=decide_eq_true (by omega)
      go_wp2_with fail
      go_meet
      exact⟨by rw[hq.out],rfl⟩
 case rest=>
  obtain⟨rfl,rfl⟩:=hcut
  have hQ:=EST.out.Q
  have hYp:0<Y:=by omega
  obtain⟨Q1,hQ1⟩:∃ Q1,(U*4294967296+d1) / (y1*4294967296+y0)=Q1:=⟨_,rfl⟩
  have f1:=Int.emod_add_mul_ediv (U*4294967296+d1) Y
  have f2:=Int.emod_nonneg (U*4294967296+d1) (show Y≠0 by omega)
  have f3:=Int.emod_lt_of_pos (U*4294967296+d1) hYp
  rw[<-HYY.out,hQ1]at f1
  rw[HYY.out,Int.mul_comm Y]at f1
  rw[hQ1]at hQ ⊢
  obtain⟨R,hR⟩:∃ R,U*4294967296+d1-Q1*Y=R:=⟨_,rfl⟩
  have hR0:0<=R:=by omega
  have hR1:R<Y:=by omega
  have n1:0<=Q1*Y:=Int.mul_nonneg hQ.1 (by omega)
  have e5:IntKind.u64.wrap (IntKind.u64.wrap (IntKind.u64.wrap (U*4294967296)+d1)-IntKind.u64.wrap (Q1*Y))=R:=by
   simp only[IntKind.wrap_u64];omega
  obtain⟨est',est2'⟩:=est_first (u:=R) (d:=d0) (y1:=y1) (y0:=y0) hR0 (by rw[HYY.out];exact hR1) bd0.1 (by omega) (by omega) (by omega) (by omega) (by omega)
  have t1':0<=R / y1*y1/\R / y1*y1<=R:=by have:=est'.r0;have:=est'.rq;have:=Int.mul_nonneg (Int.ediv_nonneg hR0 (show 0<=y1 by omega)) (show 0<=y1 by omega);omega
  have t2':0<=R / y1:=Int.ediv_nonneg hR0 (by omega)
  have t3':R / y1<=4294967297:=est'.qhi
  have EST':=Lib.hid est'
  have EST2':=Lib.hid est2'
  have HR:=Lib.hid hR
  clear f1 f2 f3 hR est' est2' hQ1
  go_upto_block 2 with (fail)
  go_cut [18] (λq wc=>q=.int .u64 ((R*4294967296+d0) / (y1*4294967296+y0))/\w1=wc)
  case first=>
   go_wp2_with fail
   go_loop [18,16] (λq r=>∃ q' r':Int,q=.int .u64 q'/\r=.int .u64 r'/\Hid (Est R d0 y1 y0 q' r')/\0<=r'/\r'<=4294967295/\0<=q'/\q'<=4294967297) (λq _=>(intOf q).toNat)
   case atStart=>exact⟨_,_,rfl,rfl,EST',by have:=EST'.out.r0;omega,by have:=EST2'.out;omega,by omega,by omega⟩
   case round=>
    obtain⟨q,r,rfl,rfl,hE,r0,r1,q0,q1⟩:=hrel
    have key:(q<4294967296/\q*y0<=4294967296*r+d0)\/((4294967296<=q\/r*4294967296+d0<q*y0)/\(4294967296<=q\/(q<4294967296/\4294967296*r+d0<q*y0))):=by omega
    rcases key with ⟨k1,k2⟩|⟨k1,k2⟩
    ·have pm:=mul_bd (a:=q) (b:=y0) (x:=4294967295) (y:=4294967295) q0 (by omega) by0.1 by0.2
     have hq:=Lib.hid (hE.out.eq_of_not (by omega))
     have g1:decide (4294967296<=q)=false:=decide_eq_false (by omega)
     have g2:decide (4294967296*r+d0<q*y0)=false:=decide_eq_false (by omega)
     go_wp2_with fail
     go_meet
     exact⟨by rw[hq.out],rfl⟩
    ·have hE2:=Lib.hid (hE.out.down k1)
     have hQ0:=hE.out.Q
     have hgt:=hE.out.gt k1
     have qp:0<=q-1:=by omega
     clear hQ0 hgt k1
     by_cases hb:r+y1<4294967296
     ·rcases k2 with k2|⟨k2,k3⟩
      ·go_wp2_with fail
       go_round
       case rel=>exact⟨q-1,r+y1,rfl,rfl,hE2,by omega,by omega,by omega,by omega⟩
       case measure=>simp[intOf];omega
      ·have pm:=mul_bd (a:=q) (b:=y0) (x:=4294967295) (y:=4294967295) q0 (by omega) by0.1 by0.2
       have g1:decide (4294967296<=q)=false:=decide_eq_false (by omega)
       have g2:decide (4294967296*r+d0<q*y0)=true:=decide_eq_true (by omega)
       go_wp2_with fail
       go_round
       case rel=>exact⟨q-1,r+y1,rfl,rfl,hE2,by omega,by omega,by omega,by omega⟩
       case measure=>simp[intOf];omega
     ·have hq:=Lib.hid (hE2.out.eq_of_big (by omega) (by omega))
      rcases k2 with k2|⟨k2,k3⟩
      ·go_wp2_with fail
       go_meet
       exact⟨by rw[hq.out],rfl⟩
      ·have pm:=mul_bd (a:=q) (b:=y0) (x:=4294967295) (y:=4294967295) q0 (by omega) by0.1 by0.2
       have g1:decide (4294967296<=q)=false:=decide_eq_false (by omega)
       have g2:decide (4294967296*r+d0<q*y0)=true:=decide_eq_true (by omega)
       go_wp2_with fail
       go_meet
       exact⟨by rw[hq.out],rfl⟩
  case rest=>
   obtain⟨rfl,rfl⟩:=hcut
   have hQ':=EST'.out.Q
   obtain⟨Q0,hQ0⟩:∃ Q0,(R*4294967296+d0) / (y1*4294967296+y0)=Q0:=⟨_,rfl⟩
   have f1:=Int.emod_add_mul_ediv (R*4294967296+d0) Y
   have f2:=Int.emod_nonneg (R*4294967296+d0) (show Y≠0 by omega)
   have f3:=Int.emod_lt_of_pos (R*4294967296+d0) hYp
   rw[<-HYY.out,hQ0]at f1
   rw[HYY.out,Int.mul_comm Y]at f1
   rw[hQ0]at hQ' ⊢
   have n2:0<=Q0*Y:=Int.mul_nonneg hQ'.1 (by omega)
   obtain⟨R0,hR0'⟩:∃ R0,R*4294967296+d0-Q0*Y=R0:=⟨_,rfl⟩
   have e6:IntKind.u64.wrap (IntKind.u64.wrap (IntKind.u64.wrap (R*4294967296)+d0)-IntKind.u64.wrap (Q0*Y))=R0:=by
    simp only[IntKind.wrap_u64];omega
   have r0:0<=R0:=by omega
   have r1:R0<Y:=by omega
   have D:=digits (N:=hi*18446744073709551616+lo) (y:=y) (p:=2^s) (U:=U) (L:=L) (Y:=Y) (q1:=Q1) (q0:=Q0) p0 V3.out HY.out (by omega) (by rw[hd1,hd0,HR.out,hR0'];exact r0) (by rw[hd1,hd0,HR.out,hR0'];exact r1)
   rw[hd1,hd0,HR.out,hR0']at D
   have D:=Lib.hid D
   clear f1 f2 f3 hR0' hQ0
   go_wp2_with fail
   go_ret2
   exact⟨by rw[<-D.out.1,<-D.out.2];rfl,rfl⟩
end Go.Proofs.YtibndgdocbbbeaaGreat
