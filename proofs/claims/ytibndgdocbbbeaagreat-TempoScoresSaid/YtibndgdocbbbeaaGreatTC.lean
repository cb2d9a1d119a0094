/- A part of the proof. -/
import Derived.Test.YtibndgdocbbbeaaGreatProg
import Derived.BigQuiet
import Derived.ChangeAlike
import Derived.Deep.AppendLies
import Derived.Deep.CutBlock
import Derived.Deep.DeepCutAuto
import Derived.Deep.LoopGhost
import Derived.Deep.QuietTactic
import Derived.Deep.RegionHeld3
import Derived.Handy
import Derived.IntWalk
import Derived.Laws.OwnMore
import Derived.Lib.Hide
import Derived.Lib.QuietBelow
import Derived.OwnWalk
import Derived.RegionTactic
import Derived.WalkKit
import Derived.WalkLawsBesides
import Derived.WalkSpells
import Derived.Test.YtibndgdocbbbeaaGreatSY9
set_option linter.all false
namespace Go.Proofs.YtibndgdocbbbeaaGreat
open Go.RowKit
structure Tp where
 f:Int
 c:Int
 a:Int
 n:Int
def tpC (t:Tp):List Value:=[.int .i64 t.f,.int .i64 t.c,.int .i64 t.a,.int .i64 t.n]
def endT (t:Tp):Int:=wrap64 (t.f+t.c)
def Zy (l:List Tp):List Value:=l.flatMap tpC
set_option maxRecDepth 20000 in
theorem endC (f c a n:Int) (w:World):Calls Tryz.prog 332 #[.agg #[.int .i64 f,.int .i64 c,.int .i64 a,.int .i64 n]] w λe w'=>e=.returned (.int .i64 (wrap64 (f+c)))/\Below w.heap.size w w':=by
 have hB:Below w.heap.size w (w.alloc (.cells #[.int .i64 f,.int .i64 c,.int .i64 a,.int .i64 n] 425)):=(Below.refl _ w).alloc (Nat.le_refl _) _
 go_enter Tryz.func332,Tryz.ntmps332
 go_wp2_with fail
 go_ret
 exact⟨rfl,hB⟩
def St (B:Nat) (wr:World) (st:List Tp):Prop:=
 ∃ v,wr.cell? ⟨B,0,none⟩=some v/\wr.frozen? ⟨B,0,none⟩=false/\wr.ownsRow (B+1) 425 4 v st.length (Zy st.reverse)
def popW (t:Tp):List Tp->List Tp
 |[]=>[]
 |x::r=>if endT x<=t.f then popW t r else x::r
def entW (t:Tp) (s:List Tp):Bool×List Tp:=
 if s.length=3 then (false,s)else match s with
 |[]=>(true,[t])
 |x::r=>if endT t>endT x then (false,x::r)else (true,t::x::r)
theorem St.len {B:Nat} {w:World} {st:List Tp} (h:St B w st):∃ ao cap,w.cell? ⟨B,0,none⟩=some (.slice ao st.length cap):=by
 obtain⟨v,hv,_,_,a⟩:=h
 rcases a with ⟨rfl,h0⟩|⟨g,cap,_,rfl,_⟩
 ·exact⟨none,0,by rw[hv,h0]⟩
 ·exact⟨_,_,hv⟩
def lenAt (B:Nat) (w:World):Nat:=match w.cell? ⟨B,0,none⟩with
 |some (.slice _ n _)=>n
 |_=>0
theorem St.lenAt {B:Nat} {w:World} {st:List Tp} (h:St B w st):lenAt B w=st.length:=by
 obtain⟨ao,a,h⟩:=h.len
 unfold Go.Proofs.YtibndgdocbbbeaaGreat.lenAt
 rw[h]
end Go.Proofs.YtibndgdocbbbeaaGreat
namespace Go.Proofs.YtibndgdocbbbeaaGreat
open Go.RowKit
theorem St.below {B:Nat} {w w':World} {st:List Tp} (h:St B w st) (hb:∀ k,B<=k->k<w.heap.size->w'.heap[k]?=w.heap[k]?) (hB:B<w.heap.size):St B w' st:=by
 obtain⟨v,hv,hf,ho⟩:=h
 have e:w'.heap[B]?=w.heap[B]?:=hb B (Nat.le_refl _) hB
 refine⟨v,(World.cell?_of_block (w:=w) e).trans hv,(World.frozen?_of_block (w:=w) e).trans hf,?_⟩
 obtain⟨h1,h2⟩:=ho
 refine⟨h1,h2.imp id ?_⟩
 rintro⟨g,b,a,e1,e2,e3,e4⟩
 exact⟨g,b,a,e1,e2,(hb g (by omega) (Array.getElem?_eq_some_iff.1 e3).1).trans e3,e4⟩
theorem St.top {B:Nat} {w:World} {x:Tp} {r:List Tp} (h:St B w (x::r)):∃ g b,w.cell? ⟨B,0,none⟩=some (.slice (some ⟨g,0,none⟩) (r.length+1) b)/\B<g/\g<w.heap.size/\r.length+1<=b/\b<=maxLen/\
  w.cell? ⟨g,r.length*4,none⟩=some (.int .i64 x.f)/\w.cell? ⟨g,r.length*4+1,none⟩=some (.int .i64 x.c)/\w.cell? ⟨g,r.length*4+2,none⟩=some (.int .i64 x.a)/\w.cell? ⟨g,r.length*4+3,none⟩=some (.int .i64 x.n):=by
 obtain⟨v,hv,hf,ho⟩:=h
 have i:=ho
 obtain⟨h1,h2⟩:=i
 rcases h2 with ⟨_,h0⟩|⟨g,b,m,rfl,hg,hh,hn,d,o,k⟩
 ·simp at h0
 have hr:∀ l:List Tp,(Zy l).length=l.length*4:=λl=>by
  induction l with
  |nil=>rfl
  |cons y l ih=>
   have:Zy (y::l)=tpC y++Zy l:=rfl
   rw[this,List.length_append,ih]
   simp[tpC];omega
 have hc:∀ j u,(tpC x)[j]?=some u->w.cell? ⟨g,r.length*4+j,none⟩=some u:=λj u hu=>by
  have hj:j<4:=by have:=(List.getElem?_eq_some_iff.1 hu).1;simpa [tpC] using this
  have e:=ho.cellAt (r.length*4+j) (by simp;omega)
  rw[e]
  have e2:Zy (x::r).reverse=Zy r.reverse++tpC x:=by simp[Zy,List.flatMap_append]
  have e3:(Zy r.reverse).length=r.length*4:=by rw[hr];simp
  rw[e2,List.getElem?_append_right (by omega),e3,Nat.add_sub_cancel_left]
  exact hu
 exact⟨g,b,hv,by omega,(Array.getElem?_eq_some_iff.1 hh).1,by simpa using hn,d,by simpa using hc 0 _ rfl,hc 1 _ rfl,hc 2 _ rfl,hc 3 _ rfl⟩
theorem cellsT_len:∀ l:List Tp,(Zy l).length=l.length*4
 |[]=>rfl
 |y::l=>by
  have:Zy (y::l)=tpC y++Zy l:=rfl
  rw[this,List.length_append,cellsT_len l]
  simp[tpC];omega
theorem St.pop {B:Nat} {u:World} {x:Tp} {r:List Tp} {g b:Nat} (h:St B u (x::r)) (hc:u.cell? ⟨B,0,none⟩=some (.slice (some ⟨g,0,none⟩) (r.length+1) b)):St B (u.setCell ⟨B,0,none⟩ (.slice (some ⟨g,0,none⟩) r.length b)) r:=by
 obtain⟨v,hv,hf,h1,h2⟩:=h
 rcases h2 with ⟨_,h0⟩|⟨g',d,e,rfl,hg,hh,hn,c,f,a⟩
 ·simp at h0
 rw[hv]at hc
 simp only[Option.some.injEq,Value.slice.injEq,Addr.mk.injEq,and_true,true_and]at hc
 obtain⟨rfl,_,rfl⟩:=hc
 refine⟨_,World.cell?_setCell_same _ _ _ hv,(World.frozen?_setCell _ _ _ _).trans hf,by rw[cellsT_len];simp,Or.inr ⟨g',d,e,rfl,hg,?_,by simp at hn;omega,c,f,?_⟩⟩
 ·rw[Below.heap_setCell _ _ _ _ (by show g'≠B;omega)];exact hh
 ·have e2:Zy (x::r).reverse=Zy r.reverse++tpC x:=by simp[Zy,List.flatMap_append]
  have h3:=congrArg (List.take (r.length*4)) a
  rw[List.take_take,e2,List.take_append_of_le_length (by rw[cellsT_len];simp),Nat.min_eq_left (by simp;omega)]at h3
  rw[h3,List.take_of_length_le (by rw[cellsT_len];simp)]
end Go.Proofs.YtibndgdocbbbeaaGreat
namespace Go.Proofs.YtibndgdocbbbeaaGreat
open Go.RowKit Go.Sort
theorem c1L (w:World) (f c a n:Int):∀ (j:Nat) (u:Value),([.int .i64 f,.int .i64 c,.int .i64 a,.int .i64 n]:List Value)[j]?=some u->(w.alloc (.cells #[.int .i64 f,.int .i64 c,.int .i64 a,.int .i64 n] 425)).cell? ((⟨w.heap.size,0,none⟩:Addr).add j)=some u:=by
 intro j u hj
 match j,hj with
 |0,hj=>simp at hj;subst hj;simp[Addr.add]
 |1,hj=>simp at hj;subst hj;simp[Addr.add]
 |2,hj=>simp at hj;subst hj;simp[Addr.add]
 |3,hj=>simp at hj;subst hj;simp[Addr.add]
theorem c2L (f c a n:Int):∀ u∈([.int .i64 f,.int .i64 c,.int .i64 a,.int .i64 n]:List Value),u.oneCell'=true:=by
 intro u hu
 simp at hu
 rcases hu with rfl|rfl|rfl|rfl<;>rfl
set_option maxHeartbeats 4000000 in
set_option maxRecDepth 100000 in
theorem info257:(Tryz.prog.info? 425).map (λi=>(i.zero,i.size,i.bytes))=some (some (.agg #[.int .i64 0,.int .i64 0,.int .i64 0,.int .i64 0]),4,32):=by kernel_rfl
theorem cell_other {w:World} {a b:Addr} {v:Value} (h:a.block≠b.block):(w.setCell b v).cell? a=w.cell? a:=World.cell?_of_block (Below.heap_setCell _ _ _ _ h)
set_option maxHeartbeats 4000000 in
set_option maxRecDepth 100000 in
theorem enterC (B:Nat) (f c a n:Int) (S:List Tp) (w:World) (h:St B w S) (hl:S.length<=3) (hB:B<w.heap.size):
  Calls Tryz.prog 331 #[.agg #[.int .i64 f,.int .i64 c,.int .i64 a,.int .i64 n],.pointer (some ⟨B,0,none⟩)] w λe w'=>e=.returned (.bool (entW ⟨f,c,a,n⟩ (popW ⟨f,c,a,n⟩ S)).1)/\St B w' (entW ⟨f,c,a,n⟩ (popW ⟨f,c,a,n⟩ S)).2/\Below B w w':=by
 have y0:(w.alloc (.cells #[.int .i64 f,.int .i64 c,.int .i64 a,.int .i64 n] 425)).cell? ⟨w.heap.size,0,none⟩=some (.int .i64 f):=by simp[go_sem]
 have y1:(w.alloc (.cells #[.int .i64 f,.int .i64 c,.int .i64 a,.int .i64 n] 425)).cell? ⟨w.heap.size,1,none⟩=some (.int .i64 c):=by simp[go_sem]
 have y2:(w.alloc (.cells #[.int .i64 f,.int .i64 c,.int .i64 a,.int .i64 n] 425)).cell? ⟨w.heap.size,2,none⟩=some (.int .i64 a):=by simp[go_sem]
 have y3:(w.alloc (.cells #[.int .i64 f,.int .i64 c,.int .i64 a,.int .i64 n] 425)).cell? ⟨w.heap.size,3,none⟩=some (.int .i64 n):=by simp[go_sem]
 have h0:St B (w.alloc (.cells #[.int .i64 f,.int .i64 c,.int .i64 a,.int .i64 n] 425)) S:=h.below (λk _ hk=>((Below.refl w.heap.size w).alloc (Nat.le_refl _) _).block k hk) hB
 have ad:Below B w (w.alloc (.cells #[.int .i64 f,.int .i64 c,.int .i64 a,.int .i64 n] 425)):=(Below.refl B w).alloc (by omega) _
 have Z:w.heap.size<(w.alloc (.cells #[.int .i64 f,.int .i64 c,.int .i64 a,.int .i64 n] 425)).heap.size:=by simp
 go_enter Tryz.func331,Tryz.ntmps331
 go_wp2_with fail
 generalize (w.alloc (.cells #[.int .i64 f,.int .i64 c,.int .i64 a,.int .i64 n] 425))=v at *
 go_loopw [] (λwr=>∃ S':List Tp,popW ⟨f,c,a,n⟩ S'=popW ⟨f,c,a,n⟩ S/\S'.length<=3/\Aside (St B wr S')/\Aside (Below B w wr)/\w.heap.size<wr.heap.size/\wr.cell? ⟨w.heap.size,0,none⟩=some (.int .i64 f)/\wr.cell? ⟨w.heap.size,1,none⟩=some (.int .i64 c)/\wr.cell? ⟨w.heap.size,2,none⟩=some (.int .i64 a)/\wr.cell? ⟨w.heap.size,3,none⟩=some (.int .i64 n)) (λwr=>lenAt B wr)
 case atStart=>exact⟨S,rfl,hl,(show Aside _ from h0),(show Aside _ from ad),Z,y0,y1,y2,y3⟩
 case round=>
  clear h0 ad Z y0 y1 y2 y3 h hl
  obtain⟨S',hp,aa,hS,b,D,z0,z1,z2,z3⟩:=hrel
  have hS:=hS.out
  have b:=b.out
  rcases S' with _|⟨x,r⟩
  ·obtain⟨ao,F,l⟩:=hS.len
   simp only[List.length_nil]at l
   have s:popW ⟨f,c,a,n⟩ S=[]:=by rw[<-hp];rfl
   obtain⟨T,C⟩:∃ T:List Tp,T=[]:=⟨_,rfl⟩
   have e:entW ⟨f,c,a,n⟩ (popW ⟨f,c,a,n⟩ S)=(true,⟨f,c,a,n⟩::T):=by rw[s,C];rfl
   have M:T.length<=2:=by rw[C];simp
   rw[<-C]at hS
   have HX0:=Lib.hid (And.intro hS (And.intro b e))
   clear hS b hp s C e
   go_upto_region 1 with (fail)
   go_region
   go_upto_region 4 with (fail)
   go_region
   obtain⟨hS,b,e⟩:=HX0.out
   have hS:St B wr.drew.drew T:=hS.below (λk _ hk=>rfl) (Nat.lt_of_lt_of_le hB b.size)
   have b:Below B w wr.drew.drew:=b.drew.drew
   have z0:wr.drew.drew.cell? ⟨w.heap.size,0,none⟩=some (.int .i64 f):=z0
   have z1:wr.drew.drew.cell? ⟨w.heap.size,1,none⟩=some (.int .i64 c):=z1
   have z2:wr.drew.drew.cell? ⟨w.heap.size,2,none⟩=some (.int .i64 a):=z2
   have z3:wr.drew.drew.cell? ⟨w.heap.size,3,none⟩=some (.int .i64 n):=z3
   have D:w.heap.size<wr.drew.drew.heap.size:=D
   have HX:=Lib.hid (And.intro b e)
   clear b e HX0 l
   generalize wr.drew.drew=q at *
   obtain⟨vv,hv,L,o⟩:=hS
   obtain⟨ii,hi,O,Y,Q⟩:=info_parts info257
   go_wp2_with (at_builtin;refine wpList_append_own _ rfl (.tmp 44) (.tmp 46) 98 rfl (B+1) 425 ii (.agg #[.int .i64 0,.int .i64 0,.int .i64 0,.int .i64 0]) 4 32 Tryz.underlying98 hi O Y Q rfl (by decide) vv T.length _ rfl (o.alloc _) ⟨q.heap.size,0,none⟩ 1 1 [.int .i64 f,.int .i64 c,.int .i64 a,.int .i64 n] rfl rfl (c1L q f c a n) (c2L f c a n) (by unfold maxLen;omega) (by omega) (by simp;omega) ?_)
   intro v' w1 j i _
   have U:∃ g' p,v'=.slice (some ⟨g',0,none⟩) (T.length+1) p:=by
    obtain⟨_,E⟩:=j
    rcases E with ⟨_,h0⟩|⟨g',p,ab,h,_⟩
    ·omega
    ·exact⟨g',p,h⟩
   obtain⟨g',p,z⟩:=U
   rw[z]
   have H:B<q.heap.size:=by omega
   have G:some B≠vv.ownBlock:=λh=>by have:=o.lt B h.symm;omega
   have X:w1.cell? ⟨B,0,none⟩=some vv:=i.cell (a:=⟨B,0,none⟩) ((World.cell?_alloc_past _ _ _ H).trans hv) G
   have P:w1.frozen? ⟨B,0,none⟩=false:=by
    rw[World.frozen?_of_block (w:=q.alloc (.cells #[.int .i64 f,.int .i64 c,.int .i64 a,.int .i64 n] 425)) (i.block B (by simp;omega) G)]
    exact(World.frozen?_alloc_past _ _ _ H).trans L
   have HY:=Lib.hid (And.intro j (And.intro i (And.intro o z)))
   clear j i o z
   go_wp2_with fail
   go_ret
   obtain⟨j,i,o,z⟩:=HY.out
   obtain⟨b,e⟩:=HX.out
   rw[e]
   refine⟨rfl,⟨_,World.cell?_setCell_same _ _ _ X,(World.frozen?_setCell _ _ _ _).trans P,?_⟩,?_⟩
   ·have:=ownsRow_setCell_below j (a:=⟨B,0,none⟩) (by show B<B+1;omega) v'
    rw[z]at this
    simpa [Zy,tpC,List.flatMap_append] using this
   ·exact((((b).alloc (by omega) _).grown i (by simp;omega) (λk hk=>by have:=(o.lt k hk).1;omega))).setCell (Nat.le_refl B) _
  ·obtain⟨g,F,l,aj,R,N,ae,x0,x1,x2,x3⟩:=hS.top
   have aa:r.length+1<=3:=aa
   have ah:lenAt B wr=r.length+1:=hS.lenAt
   have HX:=Lib.hid (And.intro hS (And.intro b hp))
   clear hS b hp
   generalize hm:r.length=m at *
   have af:=Lib.hid hm
   clear hm
   obtain⟨xf,xc,xa,xn⟩:=x
   try simp only at x0 x1 x2 x3
   have i1:(0:Int)<=(m:Int):=by omega
   have i2:(m:Int)<(m:Int)+1:=by omega
   have i4:IntKind.i64.wrap (m:Int)=(m:Int):=IntWalk.i64_in _ (by omega)
   try simp only[Int.natCast_add,Int.natCast_one]at *
   go_upto_region 1 with (fail)
   have c0:=cell_regrown l
   have d0:=cell_regrown x0
   have d1:=cell_regrown x1
   have d2:=cell_regrown x2
   have d3:=cell_regrown x3
   have e0:=cell_regrown z0
   have k1:=λd os=>(endC xf xc xa xn (grow (redrawn wr d) os)).regrown_of
   refine wp_region_quiet_below (by kernel_rfl) (by kernel_rfl) ?_
   repeat (quiet_step ((go_at_call 332;(with_reducible exact k1 _ _))))
   refine wpQuiet_nil ?_
   intro _ V
   obtain⟨⟨dq,t⟩,I⟩:=V
   subst I
   have A:=below_regrown wr dq t
   obtain⟨hS,b,hp⟩:=HX.out
   have hS:=St.below hS (λk _ hk=>A.block k hk) (Nat.lt_of_lt_of_le hB b.size)
   have b:=b.trans (A.mono (Nat.le_of_lt (Nat.lt_of_lt_of_le hB b.size)))
   have z0:=cell_regrown z0 dq t
   have z1:=cell_regrown z1 dq t
   have z2:=cell_regrown z2 dq t
   have z3:=cell_regrown z3 dq t
   have D:=Nat.lt_of_lt_of_le D A.size
   have hm:=af.out
   clear c0 d0 d1 d2 d3 e0 k1 HX A af l x0 x1 x2 x3 R
   generalize grow (redrawn wr dq) t=u at *
   obtain⟨g,F,l,aj,R,N,ae,x0,x1,x2,x3⟩:=hS.top
   have y:=hS.pop l
   rw[hm]at l N y x0 x1 x2 x3
   by_cases hlt:wrap64 (xf+xc)<=f
   ·have ac:decide (wrap64 (xf+xc)<=f)=true:=decide_eq_true hlt
    have L:u.frozen? ⟨B,0,none⟩=false:=by obtain⟨_,_,hf,_⟩:=hS;exact hf
    have W:=hS.lenAt
    have J:popW ⟨f,c,a,n⟩ r=popW ⟨f,c,a,n⟩ S:=by
     rw[<-hp]
     exact(if_pos (c:=wrap64 (xf+xc)<=f) hlt).symm
    have K:Below B w (u.setCell ⟨B,0,none⟩ (.slice (some ⟨g,0,none⟩) m F)):=b.setCell (Nat.le_refl B) _
    have w0:(u.setCell ⟨B,0,none⟩ (.slice (some ⟨g,0,none⟩) m F)).cell? ⟨w.heap.size,0,none⟩=some (.int .i64 f):=(cell_other (by show w.heap.size≠B;omega)).trans z0
    have w1:(u.setCell ⟨B,0,none⟩ (.slice (some ⟨g,0,none⟩) m F)).cell? ⟨w.heap.size,1,none⟩=some (.int .i64 c):=(cell_other (by show w.heap.size≠B;omega)).trans z1
    have w2:(u.setCell ⟨B,0,none⟩ (.slice (some ⟨g,0,none⟩) m F)).cell? ⟨w.heap.size,2,none⟩=some (.int .i64 a):=(cell_other (by show w.heap.size≠B;omega)).trans z2
    have w3:(u.setCell ⟨B,0,none⟩ (.slice (some ⟨g,0,none⟩) m F)).cell? ⟨w.heap.size,3,none⟩=some (.int .i64 n):=(cell_other (by show w.heap.size≠B;omega)).trans z3
    have HX:=Lib.hid (And.intro y (And.intro J (And.intro W (And.intro K (And.intro hm (And.intro w0 (And.intro w1 (And.intro w2 w3))))))))
    clear y J W K hm hS hp b w0 w1 w2 w3 z0 z1 z2 z3
    simp only[Int.natCast_add,Int.natCast_one]at *
    go_wp2_with fail
    obtain⟨y,J,W,K,hm,w0,w1,w2,w3⟩:=HX.out
    refine⟨⟨r,J,by omega,(show Aside _ from y),(show Aside _ from K),by simpa using D,w0,w1,w2,w3⟩,?_⟩
    rw[y.lenAt,ah,hm]
    omega
   ·have ac:decide (wrap64 (xf+xc)<=f)=false:=decide_eq_false hlt
    have s:popW ⟨f,c,a,n⟩ S=⟨xf,xc,xa,xn⟩::r:=by
     rw[<-hp]
     exact if_neg (c:=wrap64 (xf+xc)<=f) hlt
    have HX:=Lib.hid (And.intro hS (And.intro b (And.intro s hm)))
    clear hS b hp y s hm
    simp only[Int.natCast_add,Int.natCast_one]at *
    have ag:m=0\/m=1\/m=2:=by omega
    rcases ag with rfl|rfl|rfl
    case inr.inr=>
     go_upto_region 4 with (fail)
     go_region
     go_wp2_with fail
     go_ret
     obtain⟨hS,b,s,hm⟩:=HX.out
     have e:entW ⟨f,c,a,n⟩ (popW ⟨f,c,a,n⟩ S)=(false,⟨xf,xc,xa,xn⟩::r):=by rw[s];unfold entW;rw[if_pos (by simp[hm])]
     rw[e]
     exact⟨rfl,hS.below (λk _ hk=>rfl) (Nat.lt_of_lt_of_le hB b.size),b.drew⟩
    all_goals
     have al:IntKind.i64.wrap 0=0:=by decide
     have ak:IntKind.i64.wrap 1=1:=by decide
     try simp only[Nat.zero_mul,Nat.one_mul,Nat.zero_add,Nat.reduceAdd,Nat.reduceMul]at x0 x1 x2 x3
     go_upto_region 4 with (fail)
     have c0:=cell_regrown l
     have d0:=cell_regrown x0
     have d1:=cell_regrown x1
     have d2:=cell_regrown x2
     have d3:=cell_regrown x3
     have e0:=cell_regrown z0
     have e1:=cell_regrown z1
     have e2:=cell_regrown z2
     have e3:=cell_regrown z3
     have k1:=λd os=>(endC xf xc xa xn (grow (redrawn u d) os)).regrown_of
     have k2:=λd os=>(endC f c a n (grow (redrawn u d) os)).regrown_of
     refine wp_region_quiet_below (by kernel_rfl) (by kernel_rfl) ?_
     repeat (quiet_step ((go_at_call 332;(first|(with_reducible exact k1 _ _)|(with_reducible exact k2 _ _)))))
     refine wpQuiet_nil ?_
     intro _ V
     obtain⟨⟨dq,t⟩,I⟩:=V
     subst I
     have A:=below_regrown u dq t
     obtain⟨hS,b,s,hm⟩:=HX.out
     have hS:=St.below hS (λk _ hk=>A.block k hk) (Nat.lt_of_lt_of_le hB b.size)
     have b:=b.trans (A.mono (Nat.le_of_lt (Nat.lt_of_lt_of_le hB b.size)))
     have z0:=cell_regrown z0 dq t
     have z1:=cell_regrown z1 dq t
     have z2:=cell_regrown z2 dq t
     have z3:=cell_regrown z3 dq t
     have D:=Nat.lt_of_lt_of_le D A.size
     clear c0 d0 d1 d2 d3 e0 e1 e2 e3 k1 k2 HX A l x0 x1 x2 x3 R
     generalize grow (redrawn u dq) t=q at *
     by_cases hgt:wrap64 (f+c)>wrap64 (xf+xc)
     ·have ai:decide (wrap64 (xf+xc)<wrap64 (f+c))=true:=decide_eq_true hgt
      have HX:=Lib.hid (And.intro hS (And.intro b (And.intro s hm)))
      clear hS b s hm
      go_wp2_with fail
      go_ret
      obtain⟨hS,b,s,hm⟩:=HX.out
      have e:entW ⟨f,c,a,n⟩ (popW ⟨f,c,a,n⟩ S)=(false,⟨xf,xc,xa,xn⟩::r):=by
       rw[s]
       unfold entW
       rw[if_neg (by simp[hm])]
       exact if_pos (c:=wrap64 (f+c)>wrap64 (xf+xc)) hgt
      rw[e]
      exact⟨rfl,hS,b⟩
     ·have ai:decide (wrap64 (xf+xc)<wrap64 (f+c))=false:=decide_eq_false hgt
      have e:entW ⟨f,c,a,n⟩ (popW ⟨f,c,a,n⟩ S)=(true,⟨f,c,a,n⟩::⟨xf,xc,xa,xn⟩::r):=by
       rw[s]
       unfold entW
       rw[if_neg (by simp[hm])]
       exact if_neg (c:=wrap64 (f+c)>wrap64 (xf+xc)) hgt
      have M:(⟨xf,xc,xa,xn⟩::r:List Tp).length<=2:=by simp[hm]
      obtain⟨T,C⟩:∃ T:List Tp,T=⟨xf,xc,xa,xn⟩::r:=⟨_,rfl⟩
      rw[<-C]at e M hS
      have HX:=Lib.hid (And.intro b e)
      clear b e s hm C
      obtain⟨vv,hv,L,o⟩:=hS
      obtain⟨ii,hi,O,Y,Q⟩:=info_parts info257
      go_wp2_with (at_builtin;refine wpList_append_own _ rfl (.tmp 44) (.tmp 46) 98 rfl (B+1) 425 ii (.agg #[.int .i64 0,.int .i64 0,.int .i64 0,.int .i64 0]) 4 32 Tryz.underlying98 hi O Y Q rfl (by decide) vv T.length _ rfl (o.alloc _) ⟨q.heap.size,0,none⟩ 1 1 [.int .i64 f,.int .i64 c,.int .i64 a,.int .i64 n] rfl rfl (c1L q f c a n) (c2L f c a n) (by unfold maxLen;omega) (by omega) (by simp;omega) ?_)
      intro v' w1 j i _
      have U:∃ g' p,v'=.slice (some ⟨g',0,none⟩) (T.length+1) p:=by
       obtain⟨_,E⟩:=j
       rcases E with ⟨_,h0⟩|⟨g',p,ab,h,_⟩
       ·omega
       ·exact⟨g',p,h⟩
      obtain⟨g',p,z⟩:=U
      rw[z]
      have H:B<q.heap.size:=by omega
      have G:some B≠vv.ownBlock:=λh=>by have:=o.lt B h.symm;omega
      have X:w1.cell? ⟨B,0,none⟩=some vv:=i.cell (a:=⟨B,0,none⟩) ((World.cell?_alloc_past _ _ _ H).trans hv) G
      have P:w1.frozen? ⟨B,0,none⟩=false:=by
       rw[World.frozen?_of_block (w:=q.alloc (.cells #[.int .i64 f,.int .i64 c,.int .i64 a,.int .i64 n] 425)) (i.block B (by simp;omega) G)]
       exact(World.frozen?_alloc_past _ _ _ H).trans L
      have HY:=Lib.hid (And.intro j (And.intro i (And.intro o z)))
      clear j i o z
      go_wp2_with fail
      go_ret
      obtain⟨j,i,o,z⟩:=HY.out
      obtain⟨b,e⟩:=HX.out
      rw[e]
      refine⟨rfl,⟨_,World.cell?_setCell_same _ _ _ X,(World.frozen?_setCell _ _ _ _).trans P,?_⟩,?_⟩
      ·have:=ownsRow_setCell_below j (a:=⟨B,0,none⟩) (by show B<B+1;omega) v'
       rw[z]at this
       simpa [Zy,tpC,List.flatMap_append] using this
      ·exact((((b).alloc (by omega) _).grown i (by simp;omega) (λk hk=>by have:=(o.lt k hk).1;omega))).setCell (Nat.le_refl B) _
end Go.Proofs.YtibndgdocbbbeaaGreat
namespace Go.Proofs.YtibndgdocbbbeaaGreat
open Go.RowKit Go.Sort
def orderT (s t:Tp):Int:=if s.f≠t.f then (if s.f<t.f then -1 else 1)else if s.c≠t.c then (if s.c>t.c then -1 else 1)else 0
def ratioT (n:Int):Bool:=decide (1<=n/\n<=32)
set_option maxHeartbeats 1000000 in
set_option maxRecDepth 20000 in
theorem orderC (sf sc sa sn tf tc ta tn:Int) (w:World):Calls Tryz.prog 334 #[.agg #[.int .i64 sf,.int .i64 sc,.int .i64 sa,.int .i64 sn],.agg #[.int .i64 tf,.int .i64 tc,.int .i64 ta,.int .i64 tn]] w λe w'=>e=.returned (.int .i64 (orderT ⟨sf,sc,sa,sn⟩ ⟨tf,tc,ta,tn⟩))/\Below w.heap.size w w':=by
 have hB:Below w.heap.size w ((w.alloc (.cells #[.int .i64 sf,.int .i64 sc,.int .i64 sa,.int .i64 sn] 425)).alloc (.cells #[.int .i64 tf,.int .i64 tc,.int .i64 ta,.int .i64 tn] 425)):=((Below.refl _ w).alloc (Nat.le_refl _) _).alloc (by simp) _
 show Calls _ _ _ _ λe w'=>e=.returned (.int .i64 (if sf≠tf then (if sf<tf then -1 else 1)else if sc≠tc then (if sc>tc then -1 else 1)else 0))/\Below w.heap.size w w'
 by_cases h1:sf=tf
 ·subst h1
  have b:(sf !=sf)=false:=by simp
  by_cases h2:sc=tc
  ·subst h2
   have a:(sc !=sc)=false:=by simp
   rw[if_neg (by simp),if_neg (by simp)]
   go_enter Tryz.func334,Tryz.ntmps334
   go_wp2_with fail
   all_goals first|(go_ret;exact⟨rfl,hB⟩)|(exfalso;omega)
  ·have a:(sc !=tc)=true:=by simp[h2]
   rw[if_neg (by simp),if_pos h2]
   by_cases h3:sc>tc
   ·rw[if_pos h3]
    go_enter Tryz.func334,Tryz.ntmps334
    go_wp2_with fail
    all_goals first|(go_ret;exact⟨rfl,hB⟩)|(exfalso;omega)
   ·rw[if_neg h3]
    go_enter Tryz.func334,Tryz.ntmps334
    go_wp2_with fail
    all_goals first|(go_ret;exact⟨rfl,hB⟩)|(exfalso;omega)
 ·have b:(sf !=tf)=true:=by simp[h1]
  rw[if_pos h1]
  by_cases h3:sf<tf
  ·rw[if_pos h3]
   go_enter Tryz.func334,Tryz.ntmps334
   go_wp2_with fail
   all_goals first|(go_ret;exact⟨rfl,hB⟩)|(exfalso;omega)
  ·rw[if_neg h3]
   go_enter Tryz.func334,Tryz.ntmps334
   go_wp2_with fail
   all_goals first|(go_ret;exact⟨rfl,hB⟩)|(exfalso;omega)
set_option maxRecDepth 20000 in
theorem ratioC (n:Int) (w:World):Calls Tryz.prog 333 #[.int .i64 n] w λe w'=>e=.returned (.bool (ratioT n))/\w'=w:=by
 unfold ratioT
 by_cases h1:1<=n
 ·by_cases h2:n<=32
  ·rw[decide_eq_true ⟨h1,h2⟩]
   go_enter Tryz.func333,Tryz.ntmps333
   go_wp2_with fail
   all_goals first|(go_ret;exact⟨by simp[h1,h2],rfl⟩)|(exfalso;omega)
  ·rw[decide_eq_false (λh=>h2 h.2)]
   go_enter Tryz.func333,Tryz.ntmps333
   go_wp2_with fail
   all_goals first|(go_ret;exact⟨by simp[h1,h2],rfl⟩)|(exfalso;omega)
 ·rw[decide_eq_false (λh=>h1 h.1)]
  go_enter Tryz.func333,Tryz.ntmps333
  go_wp2_with fail
  all_goals first|(go_ret;exact⟨by simp[h1],rfl⟩)|(exfalso;omega)
def badT (n:Int) (t:Tp):Bool:=decide (t.c<1)||decide (t.c>n)||decide (t.f<0)||decide (t.f>wrap64 (n-t.c))||!ratioT t.a||!ratioT t.n||t.a==t.n
def goT (n:Int):Option Tp->List Tp->List Tp->Int
 |_,[],_=>0
 |p,t::r,S=>if badT n t then 2 else if (match p with|some s=>decide (orderT s t>0)|none=>false)then 25 else
  if (entW t (popW t S)).1 then goT n (some t) r (entW t (popW t S)).2 else 21
def tcheck (l:List Tp) (n:Int):Int:=if n<0\/n>128 then 2 else if l.length>16 then 9 else goT n none l []
theorem popW_len (t:Tp):∀ S:List Tp,(popW t S).length<=S.length
 |[]=>Nat.le_refl _
 |x::r=>by
  unfold popW
  split
  ·exact Nat.le_trans (popW_len t r) (by simp)
  ·exact Nat.le_refl _
theorem entW_len (t:Tp) (S:List Tp) (h:S.length<=3):(entW t S).2.length<=3:=by
 unfold entW
 split
 ·exact h
 ·rename_i h3
  match S,h,h3 with
  |[],_,_=>simp
  |x::r,h,h3=>
   simp only
   split
   ·exact h
   ·simp at h h3 ⊢;omega
end Go.Proofs.YtibndgdocbbbeaaGreat
namespace Go.Proofs.YtibndgdocbbbeaaGreat
open Go.RowKit Go.Sort
def RdT (w:World) (v:Value) (l:List Tp):Prop:=
 (l=[]/\∃ A a,v=.slice A 0 a)\/∃ b o a,v=.slice (some ⟨b,o,none⟩) l.length a/\b<w.heap.size/\∀ i t,l[i]?=some t->∀ j u,(tpC t)[j]?=some u->w.cell? ⟨b,o+i*4+j,none⟩=some u
theorem st_start (w:World):St w.heap.size (w.alloc (.cells #[.slice none 0 0] 98)) []:=
 ⟨.slice none 0 0,by rw[World.cell?_alloc_at _ _ _ _ rfl];rfl,World.frozen?_alloc_at _ _ _ _ rfl,World.ownsRow_nil _ _ _ _⟩
set_option maxHeartbeats 8000000 in
set_option maxRecDepth 100000 in
theorem checkL (A:Option Addr) (ab:Nat) (l:List Tp) (n:Int) (w:World) (h:RdT w (.slice A l.length ab) l) (aj:l.length<=16) (ai:0<=n) (ag:n<=128):
  Calls Tryz.prog 326 #[.slice A l.length ab,.int .i64 n] w λe w'=>e=.returned (.int .i64 (goT n none l []))/\Below w.heap.size w w':=by
 have t1:decide (n<0)=false:=decide_eq_false (by omega)
 have t2:decide (128<n)=false:=decide_eq_false (by omega)
 have Z:Below w.heap.size w (w.alloc (.cells #[.slice none 0 0] 98)):=(Below.refl _ w).alloc (Nat.le_refl _) _
 have Y:=st_start w
 have X:w.heap.size<(w.alloc (.cells #[.slice none 0 0] 98)).heap.size:=by simp
 generalize hN:l.length=N at *
 have R:=Lib.hid hN
 clear hN
 have t3:decide ((16:Int)<(N:Int))=false:=decide_eq_false (by omega)
 go_enter Tryz.func326,Tryz.ntmps326
 go_wp2_with fail
 generalize (w.alloc (.cells #[.slice none 0 0] 98))=v at *
 go_loopw [21] (λiv wr=>∃ (i:Nat) (S:List Tp) (p:Option Tp),iv=.int .i64 (i:Int)/\i<=N/\S.length<=3/\Aside (St w.heap.size wr S)/\Aside (Below w.heap.size w wr)/\w.heap.size<wr.heap.size/\Aside (goT n p (l.drop i) S=goT n none l [])/\Aside ((i=0/\p=none)\/∃ s,0<i/\p=some s/\l[i-1]?=some s)) (λiv wr=>((N:Int)-intOf iv).toNat)
 case atStart=>exact⟨0,[],none,rfl,by omega,by simp,(show Aside _ from Y),(show Aside _ from Z),X,(show Aside (goT n none (l.drop 0) []=goT n none l []) from (by show goT n none (l.drop 0) []=_;rw[List.drop_zero])),(show Aside _ from .inl ⟨rfl,rfl⟩)⟩
 case round=>
  clear Y Z X
  obtain⟨i,S,p,rfl,hi,I,hS,r,K,H,G⟩:=hrel
  have hS:=hS.out
  have r:=r.out
  have H:=H.out
  have G:=G.out
  by_cases hlt:i<N
  ·have hz:decide ((i:Int)<(N:Int))=true:=decide_eq_true (by omega)
   obtain⟨⟨tf,tc,ta,tn⟩,ht⟩:∃ t,l[i]?=some t:=⟨_,List.getElem?_eq_getElem (by rw[R.out];exact hlt)⟩
   have ae:∃ b o,A=some ⟨b,o,none⟩/\b<w.heap.size/\∀ i t,l[i]?=some t->∀ j u,(tpC t)[j]?=some u->w.cell? ⟨b,o+i*4+j,none⟩=some u:=by
    rcases h with ⟨h0,_⟩|⟨b,o,af,h1,h2,h3⟩
    ·subst h0;simp at ht
    ·simp only[Value.slice.injEq]at h1
     exact⟨b,o,h1.1,h2,h3⟩
   obtain⟨b,o,rfl,hb,E⟩:=ae
   have x0:wr.cell? ⟨b,o+i*4,none⟩=some (.int .i64 tf):=(r.cell (p:=⟨b,_,none⟩) hb).trans (by simpa using E i _ ht 0 _ rfl)
   have x1:wr.cell? ⟨b,o+i*4+1,none⟩=some (.int .i64 tc):=(r.cell (p:=⟨b,_,none⟩) hb).trans (E i _ ht 1 _ rfl)
   have x2:wr.cell? ⟨b,o+i*4+2,none⟩=some (.int .i64 ta):=(r.cell (p:=⟨b,_,none⟩) hb).trans (E i _ ht 2 _ rfl)
   have x3:wr.cell? ⟨b,o+i*4+3,none⟩=some (.int .i64 tn):=(r.cell (p:=⟨b,_,none⟩) hb).trans (E i _ ht 3 _ rfl)
   have i1:(0:Int)<=(i:Int):=by omega
   have i2:(i:Int)<(N:Int):=by omega
   have U:l.drop i=⟨tf,tc,ta,tn⟩::l.drop (i+1):=by
    obtain⟨h1,h2⟩:=List.getElem?_eq_some_iff.1 ht
    rw[<-h2,List.drop_eq_getElem_cons h1]
   have g:goT n none l []=if badT n ⟨tf,tc,ta,tn⟩ then 2 else if (match p with|some s=>decide (orderT s ⟨tf,tc,ta,tn⟩>0)|none=>false)then 25 else
     if (entW ⟨tf,tc,ta,tn⟩ (popW ⟨tf,tc,ta,tn⟩ S)).1 then goT n (some ⟨tf,tc,ta,tn⟩) (l.drop (i+1)) (entW ⟨tf,tc,ta,tn⟩ (popW ⟨tf,tc,ta,tn⟩ S)).2 else 21:=by rw[<-H,U];rfl
   have B:∀ s,p=some s->0<i/\wr.cell? ⟨b,o+(i-1)*4,none⟩=some (.int .i64 s.f)/\wr.cell? ⟨b,o+(i-1)*4+1,none⟩=some (.int .i64 s.c)/\wr.cell? ⟨b,o+(i-1)*4+2,none⟩=some (.int .i64 s.a)/\wr.cell? ⟨b,o+(i-1)*4+3,none⟩=some (.int .i64 s.n):=by
    intro s hs
    rcases G with ⟨_,h0⟩|⟨s',h1,h2,h3⟩
    ·rw[h0]at hs;cases hs
    ·rw[h2]at hs;cases hs
     refine⟨h1,?_,?_,?_,?_⟩
     ·exact(r.cell (p:=⟨b,_,none⟩) hb).trans (by simpa using E (i-1) _ h3 0 _ rfl)
     ·exact(r.cell (p:=⟨b,_,none⟩) hb).trans (E (i-1) _ h3 1 _ rfl)
     ·exact(r.cell (p:=⟨b,_,none⟩) hb).trans (E (i-1) _ h3 2 _ rfl)
     ·exact(r.cell (p:=⟨b,_,none⟩) hb).trans (E (i-1) _ h3 3 _ rfl)
   have z:p=none->i=0:=by
    intro h0
    rcases G with ⟨h1,_⟩|⟨s',h1,h2,h3⟩
    ·exact h1
    ·rw[h2]at h0;cases h0
   have m:Below w.heap.size w (wr.alloc (.cells #[.int .i64 tf,.int .i64 tc,.int .i64 ta,.int .i64 tn] 425)):=r.alloc (by omega) _
   have HX:=Lib.hid (And.intro hS (And.intro r (And.intro m (And.intro g (And.intro B (And.intro z ht))))))
   clear hS r m H g B z G E U h ht
   go_upto_region 10 with (fail)
   rcases Bool.eq_false_or_eq_true (decide (tc<1))with c1|c1
   ·have y:badT n ⟨tf,tc,ta,tn⟩=true:=by unfold badT;simp only[gt_iff_lt,c1];simp
    go_wp2_with (go_at_call 333;refine(ratioC _ _).mono ?_;rintro e w' ⟨rfl,rfl⟩)
    go_ret
    obtain⟨hS,r,m,g,B,z,ht⟩:=HX.out
    rw[g,if_pos y]
    exact⟨rfl,m⟩
   rcases Bool.eq_false_or_eq_true (decide (n<tc))with c2|c2
   ·have y:badT n ⟨tf,tc,ta,tn⟩=true:=by unfold badT;simp only[gt_iff_lt,c1,c2];simp
    go_wp2_with (go_at_call 333;refine(ratioC _ _).mono ?_;rintro e w' ⟨rfl,rfl⟩)
    go_ret
    obtain⟨hS,r,m,g,B,z,ht⟩:=HX.out
    rw[g,if_pos y]
    exact⟨rfl,m⟩
   rcases Bool.eq_false_or_eq_true (decide (tf<0))with c3|c3
   ·have y:badT n ⟨tf,tc,ta,tn⟩=true:=by unfold badT;simp only[gt_iff_lt,c1,c2,c3];simp
    go_wp2_with (go_at_call 333;refine(ratioC _ _).mono ?_;rintro e w' ⟨rfl,rfl⟩)
    go_ret
    obtain⟨hS,r,m,g,B,z,ht⟩:=HX.out
    rw[g,if_pos y]
    exact⟨rfl,m⟩
   rcases Bool.eq_false_or_eq_true (decide (wrap64 (n-tc)<tf))with c4|c4
   ·have y:badT n ⟨tf,tc,ta,tn⟩=true:=by unfold badT;simp only[gt_iff_lt,c1,c2,c3,c4];simp
    go_wp2_with (go_at_call 333;refine(ratioC _ _).mono ?_;rintro e w' ⟨rfl,rfl⟩)
    go_ret
    obtain⟨hS,r,m,g,B,z,ht⟩:=HX.out
    rw[g,if_pos y]
    exact⟨rfl,m⟩
   rcases Bool.eq_false_or_eq_true (ratioT ta)with c5|c5
   rotate_left
   ·have y:badT n ⟨tf,tc,ta,tn⟩=true:=by unfold badT;simp only[gt_iff_lt,c1,c2,c3,c4,c5];simp
    go_wp2_with (go_at_call 333;refine(ratioC _ _).mono ?_;rintro e w' ⟨rfl,rfl⟩)
    go_ret
    obtain⟨hS,r,m,g,B,z,ht⟩:=HX.out
    rw[g,if_pos y]
    exact⟨rfl,m⟩
   rcases Bool.eq_false_or_eq_true (ratioT tn)with c6|c6
   rotate_left
   ·have y:badT n ⟨tf,tc,ta,tn⟩=true:=by unfold badT;simp only[gt_iff_lt,c1,c2,c3,c4,c5,c6];simp
    go_wp2_with (go_at_call 333;refine(ratioC _ _).mono ?_;rintro e w' ⟨rfl,rfl⟩)
    go_ret
    obtain⟨hS,r,m,g,B,z,ht⟩:=HX.out
    rw[g,if_pos y]
    exact⟨rfl,m⟩
   rcases Bool.eq_false_or_eq_true (ta==tn)with c7|c7
   ·have y:badT n ⟨tf,tc,ta,tn⟩=true:=by unfold badT;simp only[gt_iff_lt,c1,c2,c3,c4,c5,c6,c7];simp
    go_wp2_with (go_at_call 333;refine(ratioC _ _).mono ?_;rintro e w' ⟨rfl,rfl⟩)
    go_ret
    obtain⟨hS,r,m,g,B,z,ht⟩:=HX.out
    rw[g,if_pos y]
    exact⟨rfl,m⟩
   have T:badT n ⟨tf,tc,ta,tn⟩=false:=by unfold badT;simp only[gt_iff_lt,c1,c2,c3,c4,c5,c6,c7];rfl
   go_upto_region 12 with (go_at_call 333;refine(ratioC _ _).mono ?_;rintro e w' ⟨rfl,rfl⟩)
   obtain⟨hS,r,m,g,B,z,ht⟩:=HX.out
   rw[T]at g
   simp only[Bool.false_eq_true,if_false]at g
   have hS:St w.heap.size (wr.alloc (.cells #[.int .i64 tf,.int .i64 tc,.int .i64 ta,.int .i64 tn] 425)) S:=hS.below (λk _ hk=>((Below.refl wr.heap.size wr).alloc (Nat.le_refl _) _).block k hk) K
   have x:w.heap.size<(wr.alloc (.cells #[.int .i64 tf,.int .i64 tc,.int .i64 ta,.int .i64 tn] 425)).heap.size:=by simp;omega
   have y0:(wr.alloc (.cells #[.int .i64 tf,.int .i64 tc,.int .i64 ta,.int .i64 tn] 425)).cell? ⟨wr.heap.size,0,none⟩=some (.int .i64 tf):=by simp[go_sem]
   have y1:(wr.alloc (.cells #[.int .i64 tf,.int .i64 tc,.int .i64 ta,.int .i64 tn] 425)).cell? ⟨wr.heap.size,1,none⟩=some (.int .i64 tc):=by simp[go_sem]
   have y2:(wr.alloc (.cells #[.int .i64 tf,.int .i64 tc,.int .i64 ta,.int .i64 tn] 425)).cell? ⟨wr.heap.size,2,none⟩=some (.int .i64 ta):=by simp[go_sem]
   have y3:(wr.alloc (.cells #[.int .i64 tf,.int .i64 tc,.int .i64 ta,.int .i64 tn] 425)).cell? ⟨wr.heap.size,3,none⟩=some (.int .i64 tn):=by simp[go_sem]
   have J:Below wr.heap.size wr (wr.alloc (.cells #[.int .i64 tf,.int .i64 tc,.int .i64 ta,.int .i64 tn] 425)):=(Below.refl _ wr).alloc (Nat.le_refl _) _
   have L:b<wr.heap.size:=by omega
   clear HX r
   cases p with
   |none=>
    obtain rfl:=z rfl
    simp only at g
    simp only[Bool.false_eq_true,if_false]at g
    have HQ:=Lib.hid (And.intro hS (And.intro m (And.intro g ht)))
    clear hS m g B z ht J
    generalize wr.alloc (.cells #[.int .i64 tf,.int .i64 tc,.int .i64 ta,.int .i64 tn] 425)=q at *
    go_upto_region 12 with (fail)
    go_region
    have HQ0:=HQ
    clear HQ
    have HQ:Hid (St w.heap.size q.drew S/\Below w.heap.size w q.drew/\(goT n none l []=if (entW ⟨tf,tc,ta,tn⟩ (popW ⟨tf,tc,ta,tn⟩ S)).1 then goT n (some ⟨tf,tc,ta,tn⟩) (l.drop (0+1)) (entW ⟨tf,tc,ta,tn⟩ (popW ⟨tf,tc,ta,tn⟩ S)).2 else 21)/\l[0]?=some ⟨tf,tc,ta,tn⟩):=by
     obtain⟨a1,a2,a3,a4⟩:=HQ0.out
     exact Lib.hid ⟨a1.below (λk _ hk=>rfl) x,a2.drew,a3,a4⟩
    have y0:q.drew.cell? ⟨wr.heap.size,0,none⟩=some (.int .i64 tf):=y0
    have y1:q.drew.cell? ⟨wr.heap.size,1,none⟩=some (.int .i64 tc):=y1
    have y2:q.drew.cell? ⟨wr.heap.size,2,none⟩=some (.int .i64 ta):=y2
    have y3:q.drew.cell? ⟨wr.heap.size,3,none⟩=some (.int .i64 tn):=y3
    have x:w.heap.size<q.drew.heap.size:=x
    clear HQ0
    generalize q.drew=q2 at *
    obtain⟨hS,m,g,ht⟩:=HQ.out
    cases hE:(entW ⟨tf,tc,ta,tn⟩ (popW ⟨tf,tc,ta,tn⟩ S)).1 with
    |false=>
     have HZ:=Lib.hid (And.intro g (And.intro m (And.intro K hE)))
     clear g m ht hE
     go_wp2_with fail
     refine(enterC w.heap.size tf tc ta tn S _ hS I x).mono ?_
     rintro e w2 ⟨rfl,C,D⟩
     obtain⟨g,m,K,hE⟩:=HZ.out
     rw[hE]
     clear C HZ
     have HZ:=Lib.hid (And.intro g (And.intro (m.trans D) hE))
     clear g m hE D
     go_wp2_with fail
     go_ret
     obtain⟨g,m,hE⟩:=HZ.out
     rw[g,if_neg (by simp[hE])]
     exact⟨rfl,m⟩
    |true=>
     have HZ:=Lib.hid (And.intro g (And.intro m (And.intro hE ht)))
     clear g m ht hE
     go_wp2_with fail
     refine(enterC w.heap.size tf tc ta tn S _ hS I x).mono ?_
     rintro e w2 ⟨rfl,C,D⟩
     obtain⟨g,m,hE,ht⟩:=HZ.out
     rw[hE]
     clear HZ
     have Q:=Nat.lt_of_lt_of_le x D.size
     have HZ:=Lib.hid (And.intro g (And.intro (m.trans D) (And.intro hE (And.intro C ht))))
     clear g m hE D C ht
     go_wp2_with fail
     go_roundw
     case rel=>
      obtain⟨g,m,hE,C,ht⟩:=HZ.out
      rw[if_pos hE]at g
      exact⟨0+1,_,some ⟨tf,tc,ta,tn⟩,by go_num,by omega,entW_len _ _ (Nat.le_trans (popW_len _ _) I),(show Aside _ from C),(show Aside _ from m),Q,(show Aside _ from g.symm),(show Aside _ from .inr ⟨_,by omega,rfl,by simpa using ht⟩)⟩
     case measure=>simp[intOf];omega
   |some s=>
    obtain⟨sf,sc,sa,sn⟩:=s
    obtain⟨ah,p0,p1,p2,p3⟩:=B _ rfl
    obtain⟨k,rfl⟩:∃ k,i=k+1:=⟨i-1,by omega⟩
    simp only[Nat.add_sub_cancel]at p0 p1 p2 p3
    have p0:=(J.cell (p:=⟨b,_,none⟩) L).trans p0
    have p1:=(J.cell (p:=⟨b,_,none⟩) L).trans p1
    have p2:=(J.cell (p:=⟨b,_,none⟩) L).trans p2
    have p3:=(J.cell (p:=⟨b,_,none⟩) L).trans p3
    obtain⟨O,aa,P⟩:∃ O:Int,(∀ W,Calls Tryz.prog 334 #[.agg #[.int .i64 sf,.int .i64 sc,.int .i64 sa,.int .i64 sn],.agg #[.int .i64 tf,.int .i64 tc,.int .i64 ta,.int .i64 tn]] W λe w'=>e=.returned (.int .i64 O)/\Below W.heap.size W w')/\goT n none l []=if decide (O>0)=true then 25 else if (entW ⟨tf,tc,ta,tn⟩ (popW ⟨tf,tc,ta,tn⟩ S)).1 then goT n (some ⟨tf,tc,ta,tn⟩) (l.drop (k+1+1)) (entW ⟨tf,tc,ta,tn⟩ (popW ⟨tf,tc,ta,tn⟩ S)).2 else 21:=⟨_,λW=>orderC sf sc sa sn tf tc ta tn W,g⟩
    clear g
    have g:=Lib.hid P
    clear P
    have HQ:=Lib.hid (And.intro hS (And.intro m (And.intro g.out ht)))
    clear hS m g B z ht J
    generalize wr.alloc (.cells #[.int .i64 tf,.int .i64 tc,.int .i64 ta,.int .i64 tn] 425)=q at *
    have j1:(0:Int)<=(k:Int):=by omega
    have j2:(k:Int)<(N:Int):=by omega
    have j4:IntKind.i64.wrap (k:Int)=(k:Int):=IntWalk.i64_in _ (by omega)
    have j5:decide ((0:Int)<(k:Int)+1)=true:=decide_eq_true (by omega)
    simp only[Int.natCast_add,Int.natCast_one]
    go_upto_region 12 with (fail)
    have d0:=cell_regrown p0
    have d1:=cell_regrown p1
    have d2:=cell_regrown p2
    have d3:=cell_regrown p3
    have e0:=cell_regrown y0
    have e1:=cell_regrown y1
    have e2:=cell_regrown y2
    have e3:=cell_regrown y3
    have k1:=λd os=>(aa (grow (redrawn q d) os)).regrown_of
    refine wp_region_quiet_below (by kernel_rfl) (by kernel_rfl) ?_
    repeat (quiet_step ((go_at_call 334;(with_reducible exact k1 _ _))))
    refine wpQuiet_nil ?_
    intro _ ad
    obtain⟨⟨dq,F⟩,V⟩:=ad
    subst V
    have M:=below_regrown q dq F
    obtain⟨hS,m,g,ht⟩:=HQ.out
    have hS:=St.below hS (λk _ hk=>M.block k hk) x
    have m:=m.trans (M.mono (Nat.le_of_lt x))
    have y0:=cell_regrown y0 dq F
    have y1:=cell_regrown y1 dq F
    have y2:=cell_regrown y2 dq F
    have y3:=cell_regrown y3 dq F
    have x:=Nat.lt_of_lt_of_le x M.size
    clear d0 d1 d2 d3 e0 e1 e2 e3 k1 HQ M p0 p1 p2 p3
    generalize grow (redrawn q dq) F=q2 at *
    by_cases hO2:0<O
    ·have ac:decide (0<O)=true:=decide_eq_true hO2
     have HZ:=Lib.hid (And.intro g m)
     clear hS g m ht
     go_wp2_with fail
     all_goals go_ret
     all_goals obtain⟨g,m⟩:=HZ.out
     all_goals rw[g,if_pos (by simpa using hO2)]
     all_goals exact⟨rfl,m⟩
    ·have ac:decide (0<O)=false:=decide_eq_false hO2
     rw[if_neg (by simpa using hO2)]at g
     have HQ:=Lib.hid (And.intro hS (And.intro m (And.intro g ht)))
     clear hS m g ht
     obtain⟨hS,m,g,ht⟩:=HQ.out
     cases hE:(entW ⟨tf,tc,ta,tn⟩ (popW ⟨tf,tc,ta,tn⟩ S)).1 with
     |false=>
      have HZ:=Lib.hid (And.intro g (And.intro m (And.intro K hE)))
      clear g m ht hE
      go_wp2_with fail
      refine(enterC w.heap.size tf tc ta tn S _ hS I x).mono ?_
      rintro e w2 ⟨rfl,C,D⟩
      obtain⟨g,m,K,hE⟩:=HZ.out
      rw[hE]
      clear C HZ
      have HZ:=Lib.hid (And.intro g (And.intro (m.trans D) hE))
      clear g m hE D
      go_wp2_with fail
      go_ret
      obtain⟨g,m,hE⟩:=HZ.out
      rw[g,if_neg (by simp[hE])]
      exact⟨rfl,m⟩
     |true=>
      have HZ:=Lib.hid (And.intro g (And.intro m (And.intro hE ht)))
      clear g m ht hE
      go_wp2_with fail
      refine(enterC w.heap.size tf tc ta tn S _ hS I x).mono ?_
      rintro e w2 ⟨rfl,C,D⟩
      obtain⟨g,m,hE,ht⟩:=HZ.out
      rw[hE]
      clear HZ
      have Q:=Nat.lt_of_lt_of_le x D.size
      have HZ:=Lib.hid (And.intro g (And.intro (m.trans D) (And.intro hE (And.intro C ht))))
      clear g m hE D C ht
      go_wp2_with fail
      go_roundw
      case rel=>
       obtain⟨g,m,hE,C,ht⟩:=HZ.out
       rw[if_pos hE]at g
       exact⟨k+1+1,_,some ⟨tf,tc,ta,tn⟩,by go_num,by omega,entW_len _ _ (Nat.le_trans (popW_len _ _) I),(show Aside _ from C),(show Aside _ from m),Q,(show Aside _ from g.symm),(show Aside _ from .inr ⟨_,by omega,rfl,by simpa using ht⟩)⟩
      case measure=>simp[intOf];omega
  ·have hz:decide ((i:Int)<(N:Int))=false:=decide_eq_false (by omega)
   have hd:l.drop i=[]:=List.drop_eq_nil_of_le (by rw[R.out];omega)
   have e:goT n none l []=0:=by rw[<-H,hd];rfl
   have HX:=Lib.hid (And.intro r e)
   clear hS r H G e hd R h
   go_wp2_with fail
   go_ret
   obtain⟨r,e⟩:=HX.out
   rw[e]
   exact⟨rfl,r⟩
end Go.Proofs.YtibndgdocbbbeaaGreat
namespace Go.Proofs.YtibndgdocbbbeaaGreat
open Go.RowKit Go.Sort Go.PE
set_option maxHeartbeats 2000000 in
set_option maxRecDepth 100000 in
theorem checkC (v:Value) (l:List Tp) (n:Int) (w:World) (h:RdT w v l) (c:l.length<=maxLen):
  Calls Tryz.prog 326 #[v,.int .i64 n] w λe w'=>e=.returned (.int .i64 (tcheck l n))/\RowKit.Below w.heap.size w w':=by
 obtain⟨A,a,rfl⟩:∃ A a,v=.slice A l.length a:=by
  rcases h with ⟨rfl,A,a,rfl⟩|⟨b,o,a,rfl,_⟩
  ·exact⟨A,a,rfl⟩
  ·exact⟨_,a,rfl⟩
 unfold tcheck
 by_cases h1:n<0
 ·have t1:decide (n<0)=true:=decide_eq_true h1
  rw[if_pos (.inl h1)]
  generalize l.length=N at *
  clear h
  go_enter Tryz.func326,Tryz.ntmps326
  go_wp2_with fail
  go_ret
  exact⟨rfl,RowKit.Below.refl _ _⟩
 have t1:decide (n<0)=false:=decide_eq_false h1
 by_cases h2:n>128
 ·have t2:decide (128<n)=true:=decide_eq_true h2
  rw[if_pos (.inr h2)]
  generalize l.length=N at *
  clear h
  go_enter Tryz.func326,Tryz.ntmps326
  go_wp2_with fail
  go_ret
  exact⟨rfl,RowKit.Below.refl _ _⟩
 have t2:decide (128<n)=false:=decide_eq_false h2
 rw[if_neg (by omega)]
 by_cases h3:l.length>16
 ·rw[if_pos h3]
  generalize l.length=N at *
  have t3:decide ((16:Int)<(N:Int))=true:=decide_eq_true (by omega)
  clear h
  go_enter Tryz.func326,Tryz.ntmps326
  go_wp2_with fail
  go_ret
  exact⟨rfl,RowKit.Below.refl _ _⟩
 ·rw[if_neg h3]
  exact checkL A a l n w h (by omega) (by omega) (by omega)
theorem acall_of {P:Program} {f:FuncId} {args:List PV} {k:IntKind} {x:Int} (he:Enters P f) (h:∀ (g:Gh) (w:World) (vs:Array Value),Inv g [] w->LR g args vs->Calls P f vs w λe w'=>e=.returned (.int k x)/\RowKit.Below w.heap.size w w'):
  ACall P f args [] λq h=>q=.sc (.int k x)/\h=[]:=by
 refine⟨he,λg w vs hI hL=>(h g w vs hI hL).mono ?_⟩
 rintro e w' ⟨rfl,hB⟩
 have hO:∀ b,g.O b=none:=λb=>by
  cases e:g.O b with
  |none=>rfl
  |some k=>have:=hI.domO b k e;simp at this
 refine⟨_,_,[],g,rfl,⟨rfl,rfl⟩,⟨.refl g,λ_ _=>rfl,hB.os,hB.tape,hB.output,hB.size,λb hb _=>hB.block b hb,λb k h=>.inl h,λ_ _ _ _=>rfl⟩,Nat.le_refl _,⟨λb o v h=>?_,λk x hx=>by simp at hx,hI.own,λb k h=>(by rw[hO]at h;cases h),hI.domB,hI.domT,hI.domO⟩,.sc rfl⟩
 have h1:=hI.C b o v h
 exact(hB.cell (p:=⟨b,o,none⟩) (World.block_lt_of_cell? w ⟨b,o,none⟩ h1)).trans h1
theorem tupletC {α:Type} {c:α->List PV} (tp:α->Tp) (hc:∀ y,c y=[iP (tp y).f,iP (tp y).c,iP (tp y).a,iP (tp y).n]) {x:Sl α} {n:Int}:ACall Tryz.prog 326 [eS 4 c x,iP n] [] λq h=>q=iP (tcheck (x.es.map tp) n)/\h=[]:=by
 refine acall_of ⟨Tryz.f326,Tryz.func326,by decide,rfl⟩ λg w vs hI hL=>?_
 obtain⟨k,hr⟩:=hL
 have k:vs.size=2:=by simpa using k.symm
 obtain⟨v0,v1,rfl⟩:∃ v0 v1,vs=#[v0,v1]:=⟨vs[0],vs[1],by apply Array.ext<;>simp[k];intro i hi;match i,hi with|0,_=>intro _;rfl|1,_=>intro _;rfl⟩
 have r0:=hr 0 _ v0 rfl rfl
 have r1:=hr 1 _ v1 rfl rfl
 have e1:v1=.int .i64 n:=by cases r1;rfl
 subst e1
 have key:RdT w v0 (x.es.map tp)/\(x.es.map tp).length<=maxLen:=by
  have m:∀ {r s},RV g (.sl true r s []) v0->v0=.slice none 0 0:=λh=>by cases h;rfl
  have e:∀ {r:Right} (l:List α),RV g (.sl false r 4 (l.map c)) v0->RdT w v0 (l.map tp)/\(l.map tp).length<=maxLen:=by
   intro r l h
   generalize hes:l.map c=es at h
   cases h with
   |em _ _ A _=>
    obtain rfl:l=[]:=List.map_eq_nil_iff.1 hes
    exact⟨.inl ⟨rfl,_,_,rfl⟩,Nat.zero_le _⟩
   |@sl _ _ b o cap _ vf hcp hm hs hC hR hro=>
    subst hes
    simp only[List.length_map]at hcp
    refine⟨?_,by simp;omega⟩
    by_cases h0:l=[]
    ·subst h0;exact .inl ⟨rfl,_,_,rfl⟩
    ·have d:∀ (i:Nat) (t:α),l[i]?=some t->∀ (j:Nat) (u:Value),(tpC (tp t))[j]?=some u->w.cell? ⟨b,o+i*4+j,none⟩=some u:=by
      intro i t ht j u hu
      have hi:(l.map c)[i]?=some (c t):=by rw[List.getElem?_map,ht];rfl
      have hj:∃ p,(c t)[j]?=some p/\p=.sc u:=by
       rw[hc]
       match j,hu with
       |0,hu=>simp[tpC]at hu;subst hu;exact⟨_,rfl,rfl⟩
       |1,hu=>simp[tpC]at hu;subst hu;exact⟨_,rfl,rfl⟩
       |2,hu=>simp[tpC]at hu;subst hu;exact⟨_,rfl,rfl⟩
       |3,hu=>simp[tpC]at hu;subst hu;exact⟨_,rfl,rfl⟩
       |j+4,hu=>simp[tpC]at hu
      obtain⟨p,hp,rfl⟩:=hj
      have h1:=hC i j _ _ hi hp
      have h2:=hR i j _ _ hi hp
      have h3:vf i j=u:=by
       generalize vf i j=z at h2
       cases h2;rfl
      rw[h3]at h1
      exact hI.C _ _ _ h1
     obtain⟨y,ys,rfl⟩:∃ y ys,l=y::ys:=by cases l with|nil=>exact absurd rfl h0|cons y ys=>exact⟨y,ys,rfl⟩
     have hb:=World.block_lt_of_cell? w ⟨b,_,none⟩ (d 0 y rfl 0 _ rfl)
     refine .inr ⟨b,o,cap,by simp,hb,λi t ht=>?_⟩
     rw[List.getElem?_map]at ht
     cases hy:(y::ys)[i]? with
     |none=>rw[hy]at ht;cases ht
     |some z=>rw[hy]at ht;cases ht;exact d i z hy
  cases x with
  |nil=>exact⟨.inl ⟨rfl,none,0,m r0⟩,by simp[Sl.es]⟩
  |no l=>exact e l r0
  |full l=>exact e l r0
 exact checkC v0 _ n w key.1 key.2
end Go.Proofs.YtibndgdocbbbeaaGreat
