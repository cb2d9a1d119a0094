/- A part of the proof. -/
import Derived.Test.YtibndgdocbbbeaaGreatHF
import Derived.Test.YtibndgdocbbbeaaGreatFB
import Derived.Test.YtibndgdocbbbeaaGreatTC
import Derived.Test.YtibndgdocbbbeaaGreatOP3
set_option linter.all false
namespace Go.Proofs.YtibndgdocbbbeaaGreat
open Go.PE Go.RowKit
def Flat {α:Type} (c:α->List PV) (s:Nat):Prop:=∀ x,(c x).length=s/\∀ p∈c x,∃ v,p=.sc v/\plainV v=true/\v.oneCell'=true
variable {α:Type} {c:α->List PV} {s:Nat}
theorem acall_via {f:FuncId} {fn:Func} {args:List PV} {r:PV} (hf:Tryz.prog.funcs[f]?=some fn) (hn:(fn.name != "runtime.NumGoroutine"&&fn.body.isSome)=true)
  (h:∀ (g:Gh) (w:World) (vs:Array Value),Inv g [] w->LR g args vs->Calls Tryz.prog f vs w λe w'=>Below w.heap.size w w'/\∃ u,e=.returned u/\∀ g':Gh,(∀ b o v,b<w.heap.size->g.C b o=some v->g'.C b o=some v)->(∀ b o v,w.heap.size<=b->w'.cell? ⟨b,o,none⟩=some v->g'.C b o=some v)->RV g' r u):ACall Tryz.prog f args [] λq k=>q=r/\k=[]:=by
 simp only[Bool.and_eq_true,bne_iff_ne,ne_eq]at hn
 refine⟨⟨fn,hf,hn.1,hn.2⟩,λg w vs hI hL=>?_⟩
 have hO:∀ b,g.O b=none:=λb=>by
  cases h1:g.O b with
  |none=>rfl
  |some k=>have:=hI.domO b k h1;simp at this
 have hB:∀ k,g.B k=none:=λk=>hI.domB k (Nat.zero_le _)
 have hT:∀ k n,g.T k n=none:=λk n=>hI.domT k n (Nat.zero_le _)
 refine(h g w vs hI hL).mono ?_
 rintro e w' ⟨hb,u,rfl,hu⟩
 let g2:Gh:=⟨λb o=>if b<w.heap.size then g.C b o else w'.cell? ⟨b,o,none⟩,λ_ _=>none,λ_=>none,λ_=>none⟩
 refine⟨u,r,[],g2,rfl,⟨rfl,rfl⟩,⟨⟨λb o v h=>?_,λj n x h=>(by rw[hT]at h;cases h),λk b h=>(by rw[hB]at h;cases h),λb k h=>(by rw[hO]at h;cases h)⟩,λk hk=>absurd hk (Nat.not_lt_zero k),hb.os,hb.tape,hb.output,hb.size,λb hlt _=>hb.block b hlt,λb k h=>(nomatch h),λb o _ hlt=>if_pos hlt⟩,Nat.zero_le _,
  ⟨λb o v h=>?_,λk x h=>(by simp at h),λ_ _ h=>(nomatch h),λ_ _ h=>(nomatch h),λ_ _=>rfl,λ_ _ _=>rfl,λ_ _ h=>(nomatch h)⟩,hu g2 (λb o v hlt hc=>(if_pos hlt:(if b<w.heap.size then g.C b o else _)=_).trans hc) λb o v hge hc=>?_⟩
 ·have:=World.block_lt_of_cell? w _ (hI.C b o v h)
  show(if b<w.heap.size then g.C b o else _)=some v
  rw[if_pos this,h]
 ·have h:(if b<w.heap.size then g.C b o else w'.cell? ⟨b,o,none⟩)=some v:=h
  split at h
  ·rename_i hlt
   exact(hb.cell (p:=⟨b,o,none⟩) hlt).trans (hI.C b o v h)
  ·exact h
 ·show(if b<w.heap.size then g.C b o else _)=some v
  rw[if_neg (by omega)]
  exact hc
end Go.Proofs.YtibndgdocbbbeaaGreat
