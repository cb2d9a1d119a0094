/- A part of the proof. -/
import Derived.Test.YtibndgdocbbbeaaGreatHF
import Derived.Test.YtibndgdocbbbeaaGreatFB
import Derived.Test.YtibndgdocbbbeaaGreatTC
import Derived.Test.YtibndgdocbbbeaaGreatOP3
set_option linter.all false
namespace Go.Proofs.YtibndgdocbbbeaaGreat
open Go.PE Go.RowKit
def Flat {α:Type} (c:α->List PV) (s:Nat):Prop:=∀ x,(c x).length=s/\∀ p∈c x,∃ v,p=.sc v/\plainV v=true/\v.oneCell'=true
variable {α:Type} {c:α->List PV} {s:Nat}
theorem acall_via {f:FuncId} {fn:Func} {args:List PV} {r:PV} (hf:Tryz.prog.funcs[f]?=some fn) (hn:(fn.name != "runtime.NumGoroutine"&&fn.body.isSome)=true)
  (h:∀ (g:Gh) (w:World) (vs:Array Value),Inv g [] w->LR g args vs->Calls Tryz.prog f vs w λe w'=>Below w.heap.size w w'/\∃ u,e=.returned u/\∀ g':Gh,(∀ b o v,b<w.heap.size->g.C b o=some v->g'.C b o=some v)->(∀ b o v,w.heap.size<=b->w'.cell? ⟨b,o,none⟩=some v->g'.C b o=some v)->RV g' r u):ACall Tryz.prog f args [] λq k=>q=r/\k=[]:=by
 simp only[Bool.and_eq_true,bne_iff_ne,ne_eq]at hn
 refine⟨⟨fn,hf,hn.1,hn.2⟩,λg w vs hI hL=>?_⟩
 have hO:∀ b,g.O b=none:=λb=>by
  cases h1:g.O b with
  |none=>rfl
  |some k=>have:=hI.domO b k h1;simp at this
 have hB:∀ k,g.B k=none:=λk=>hI.domB k (Nat.zero_le _)
 have hT:∀ k n,g.T k n=none:=λk n=>hI.domT k n (Nat.zero_le _)
 refine(h g w vs hI hL).mono ?_
 rintro e w' ⟨hb,u,rfl,hu⟩
 let g2:Gh:=⟨λb o=>if b<w.heap.size then g.C b o else w'.cell? ⟨b,o,none⟩,λ_ _=>none,λ_=>none,λ_=>none⟩
 refine⟨u,r,[],g2,rfl,⟨rfl,rfl⟩,⟨⟨λb o v h=>?_,λj n x h=>(by rw[hT]at h;cases h),λk b h=>(by rw[hB]at h;cases h),λb k h=>(by rw[hO]at h;cases h)⟩,λk hk=>absurd hk (Nat.not_lt_zero k),hb.os,hb.tape,hb.output,hb.size,λb hlt _=>hb.block b hlt,λb k h=>(nomatch h),λb o _ hlt=>if_pos hlt⟩,Nat.zero_le _,
  ⟨λb o v h=>?_,λk x h=>(by simp at h),λ_ _ h=>(nomatch h),λ_ _ h=>(nomatch h),λ_ _=>rfl,λ_ _ _=>rfl,λ_ _ h=>(nomatch h)⟩,hu g2 (λb o v hlt hc=>(if_pos hlt:(if b<w.heap.size then g.C b o else _)=_).trans hc) λb o v hge hc=>?_⟩
 ·have:=World.block_lt_of_cell? w _ (hI.C b o v h)
  show(if b<w.heap.size then g.C b o else _)=some v
  rw[if_pos this,h]
 ·have h:(if b<w.heap.size then g.C b o else w'.cell? ⟨b,o,none⟩)=some v:=h
  split at h
  ·rename_i hlt
   exact(hb.cell (p:=⟨b,o,none⟩) hlt).trans (hI.C b o v h)
  ·exact h
 ·show(if b<w.heap.size then g.C b o else _)=some v
  rw[if_neg (by omega)]
  exact hc
end Go.Proofs.YtibndgdocbbbeaaGreat
namespace Go.Proofs.YtibndgdocbbbeaaGreat
open Go.PE Go.RowKit
set_option maxHeartbeats 2000000 in
set_option maxRecDepth 100000 in
theorem div64C (l n:Int) (h0:0<=l) (h1:l<18446744073709551616) (n0:0<n) (n1:n<18446744073709551616) (w:World):
  Calls Tryz.prog 92 #[.int .u64 0,.int .u64 l,.int .u64 n] w λe w'=>e=.returned (.tuple #[.int .u64 (l / n),.int .u64 (l%n)])/\Below w.heap.size w w':=by
 have a1:¬ n=0:=by omega
 have a2:¬ n<=0:=by omega
 have a3:Int.tdiv l n=l / n:=Int.tdiv_eq_ediv_of_nonneg h0
 have a4:Int.tmod l n=l%n:=Int.tmod_eq_emod_of_nonneg h0
 have b0:0<=l / n:=Int.ediv_nonneg h0 (by omega)
 have b1:l / n<18446744073709551616:=Int.lt_of_le_of_lt (Int.ediv_le_self n h0) h1
 have b2:IntKind.u64.wrap (l / n)=l / n:=by
  show(l / n)%18446744073709551616=l / n
  exact Int.emod_eq_of_lt b0 b1
 go_enter Tryz.func92,Tryz.ntmps92
 go_wp2_with fail
 go_quiet (fail)
 go_wp2_with fail
 go_ret2
 exact⟨rfl,rfl,rfl,rfl,Nat.le_refl _,λ_ _=>rfl⟩
theorem CF92 {v0 v1 v2 out} (hF:F92 v0 v1 v2=some out):ACall Tryz.prog 92 [.sc (.int .u64 v0),.sc (.int .u64 v1),.sc (.int .u64 v2)] [] λq k=>q=.tup [.sc (.int .u64 out.1),.sc (.int .u64 out.2)]/\k=[]:=by
 unfold F92 at hF
 rcases cor hF with ⟨c,hF⟩|⟨_,hF⟩
 ·cases hF
  simp only[Bool.and_eq_true,decide_eq_true_eq]at c
  obtain⟨⟨⟨⟨rfl,h0⟩,h1⟩,n0⟩,n1⟩:=c
  refine acall_via Tryz.func92 (by kernel_rfl) λg w vs _ hL=>?_
  have hv:vs=#[.int .u64 0,.int .u64 v1,.int .u64 v2]:=by
   have hn:vs.size=3:=hL.1.symm
   have k:∀ i (hi:i<3) n,[PV.sc (.int .u64 0),.sc (.int .u64 v1),.sc (.int .u64 v2)][i]?=some (.sc (.int .u64 n))->vs[i]'(by omega)=.int .u64 n:=λi hi n hp=>by
    have:=hL.2 i _ _ hp (Array.getElem?_eq_getElem (show i<vs.size by omega))
    generalize vs[i]'(by omega)=x at this
    cases this
    rfl
   have e0:=k 0 (by omega) _ rfl
   have e1:=k 1 (by omega) _ rfl
   have e2:=k 2 (by omega) _ rfl
   apply Array.ext (by simpa using hn)
   intro i hi hj
   match i,hi with
   |0,_=>exact e0
   |1,_=>exact e1
   |2,_=>exact e2
   |i+3,hi=>omega
  subst hv
  refine(div64C v1 v2 h0 h1 n0 n1 w).mono ?_
  rintro e w' ⟨rfl,hb⟩
  refine⟨hb,_,rfl,λg' _ _=>.tup rfl λi p v hp hv=>?_⟩
  match i,hp,hv with
  |0,hp,hv=>simp at hp hv;subst hp hv;exact .sc rfl
  |1,hp,hv=>simp at hp hv;subst hp hv;exact .sc rfl
  |i+2,hp,hv=>simp at hp
 ·cases hF
end Go.Proofs.YtibndgdocbbbeaaGreat
