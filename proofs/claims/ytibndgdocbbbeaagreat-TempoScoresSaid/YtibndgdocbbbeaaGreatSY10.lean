/- A part of the proof. -/
import Derived.Test.YtibndgdocbbbeaaGreatSY9
set_option linter.all false
namespace Go.PE
open Go.RowKit
def acOf (P:Program) (fn:Func):AC:=match fn.body with
 |some c=>(comp P c).getD .bad
 |none=>.bad
def rsOf (P:Program) (fn:Func):List RP:=(compRes P fn).getD []
def okF (P:Program) (fn:Func):Bool:=match fn.body with
 |some c=>(comp P c).isSome&&(compRes P fn).isSome&&(fn.name != "runtime.NumGoroutine")
 |none=>false
theorem entry {P:Program} {f:FuncId} {fn:Func} (hf:P.funcs[f]?=some fn) (h:okF P fn=true):EntryOk P f ⟨fn.ntmps,acOf P fn,rsOf P fn⟩:=by
 unfold okF at h
 split at h
 ·rename_i c hc
  simp only[Bool.and_eq_true,bne_iff_ne,ne_eq]at h
  obtain⟨⟨h1,h2⟩,h3⟩:=h
  refine⟨fn,c,hf,h3,hc,?_,?_,rfl⟩
  ·unfold acOf
   obtain⟨a,ha⟩:=Option.isSome_iff_exists.1 h1
   simp only[hc,ha,Option.getD_some]
  ·unfold rsOf
   obtain⟨a,ha⟩:=Option.isSome_iff_exists.1 h2
   simp only[ha,Option.getD_some]
 ·cases h
def AC.l:AC->AC
 |.seq a _=>a
 |.cond _ a _=>a
 |_=>.bad
def AC.r:AC->AC
 |.seq _ b=>b
 |.cond _ _ b=>b
 |_=>.bad
def AC.b:AC->AC
 |.block _ c=>c
 |.loop c=>c
 |_=>.bad
def AC.o:AC->Opd
 |.cond o _ _=>o
 |_=>.c (.tup [])
def AC.isS:AC->Bool
 |.seq _ _=>true
 |_=>false
def AC.isK:AC->Bool
 |.cond _ _ _=>true
 |_=>false
def AC.isL:AC->Bool
 |.loop _=>true
 |_=>false
def AC.isB (n:Nat):AC->Bool
 |.block i _=>Nat.beq i n
 |_=>false
def AC.dr:Nat->AC->AC
 |0,c=>c.r
 |k+1,c=>AC.dr k c.r
theorem eqS {c:AC} (h:c.isS=true):c=.seq c.l c.r:=by cases c<;>first|rfl|cases h
theorem eqC {c:AC} (h:c.isK=true):c=.cond c.o c.l c.r:=by cases c<;>first|rfl|cases h
theorem eqL {c:AC} (h:c.isL=true):c=.loop c.b:=by cases c<;>first|rfl|cases h
theorem eqB {c:AC} {n:Nat} (h:c.isB n=true):c=.block n c.b:=by
 cases c<;>first|cases h|skip
 have:=Nat.eq_of_beq_eq_true h
 subst this
 rfl
theorem runP_dr:∀ (k:Nat) {c b:AC} {env:List PV} {H:List Blk} {ws:List Wn} {e:List PV} {h:List Blk} {ws' os:List Wn},runP k c env H ws=some (b,e,h,ws',os)->b=c.dr k
 |0,c,b,env,H,ws,e,h,ws',os,hr=>by
  cases c with
  |seq a b'=>
   simp only[runP]at hr
   split at hr
   ·rename_i x1 e1 h1 ws1 o1 hA
    cases x1 with
    |normal=>simp only[Option.some.injEq,Prod.mk.injEq]at hr;exact hr.1.symm
    |exit i=>cases hr
    |ret=>cases hr
   ·cases hr
  |_=>simp[runP]at hr
 |k+1,c,b,env,H,ws,e,h,ws',os,hr=>by
  cases c with
  |seq a b'=>
   simp only[runP]at hr
   split at hr
   ·rename_i x1 e1 h1 ws1 o1 hA
    cases x1 with
    |normal=>
     simp only at hr
     split at hr
     ·rename_i hB
      simp only[Option.some.injEq,Prod.mk.injEq]at hr
      obtain⟨rfl,_⟩:=hr
      exact runP_dr k hB
     ·cases hr
    |exit i=>cases hr
    |ret=>cases hr
   ·cases hr
  |_=>simp[runP]at hr
def runQ2 (k:Nat) (c:AC) (N:Nat) (le:List (Nat×PV)) (H:List Blk) (ws:List Wn) (sl:List (Nat×PV)):Option (List (Option PV)×List Blk×List Wn):=
 match runP k c (mk N le) H ws with
 |some (_,e,h,[],o)=>match Nat.beq e.length N with
  |true=>some (sl.map λx=>e[x.1]?,h,o)
  |false=>none
 |_=>none
variable {P:Program} {H0:List Blk}
theorem gPW {c:AC} {N:Nat} {le:List (Nat×PV)} {H:List Blk} {Q:Ex->List PV->List Blk->Prop} (k:Nat) (ws:List (Wb P)) (le':List (Nat×PV)) (H':List Blk)
  (le2:List (Nat×PV)) (H2:List Blk) (hw:WeakS H0 (mk N le') H' (mk N le2) H2) (hb:GX P H0 (c.dr k) (mk N le2) H2 Q) (hE:runQ2 k c N le H (ws.map Wb.raw) le'=some (vals le',H',ws.map Wb.raw):=by kernel_rfl):GX P H0 c (mk N le) H Q:=⟨by
 unfold runQ2 at hE
 split at hE
 ·rename_i hr
  split at hE
  ·rename_i hl
   simp only[Option.some.injEq,Prod.mk.injEq]at hE
   obtain⟨hv,rfl,ho⟩:=hE
   have hd:=runP_dr k hr
   exact runP_sound k hr (ho▸wb_ok ws) ⟨_,_,(weak_mk (Nat.eq_of_beq_eq_true hl) hv).trans hw,hd▸hb.ax⟩
  ·cases hE
 ·cases hE⟩
theorem gP {c:AC} {N:Nat} {le:List (Nat×PV)} {H:List Blk} {Q:Ex->List PV->List Blk->Prop} (k:Nat) (ws:List (Wb P)) (le':List (Nat×PV)) (H':List Blk)
  (hb:GX P H0 (c.dr k) (mk N le') H' Q) (hE:runQ2 k c N le H (ws.map Wb.raw) le'=some (vals le',H',ws.map Wb.raw):=by kernel_rfl):GX P H0 c (mk N le) H Q:=
 gPW k ws le' H' le' H' (WeakS.refl _ _ _) hb hE
theorem gM {c:AC} {φ ρ:Type} {N:Nat} {le:List (Nat×PV)} {H:List Blk} {Q:Ex->List PV->List Blk->Prop} (T:φ->List (Nat×PV)×List Blk×Option ρ) (out:ρ)
  (hJ:∀ p,(T p).2.2=some out->GX P H0 c.r (mk N (T p).1) (T p).2.1 Q)
  (hA:GX P H0 c.l (mk N le) H λx e h=>match x with
   |.normal=>∃ e2 h2,WeakS H0 e h e2 h2/\∃ p,(T p).2.2=some out/\e2=mk N (T p).1/\h2=(T p).2.1
   |x=>Q x e h) (hc:c.isS=true:=by kernel_rfl):GX P H0 c (mk N le) H Q:=g_join (eqS hc) (λp=>(T p).1) (λp=>(T p).2.1) (λp=>(T p).2.2) out hJ hA
theorem gS {c:AC} {env:List PV} {H:List Blk} {Q:Ex->List PV->List Blk->Prop}
  (hA:GX P H0 c.l env H λx e h=>match x with
   |.normal=>∃ e2 h2,WeakS H0 e h e2 h2/\GX P H0 c.r e2 h2 Q
   |x=>Q x e h) (hc:c.isS=true:=by kernel_rfl):GX P H0 c env H Q:=g_seq (eqS hc) hA
theorem gK {c:AC} {env:List PV} {H:List Blk} {Q:Ex->List PV->List Blk->Prop} (t:Bool) (ha:t=true->GX P H0 c.l env H Q) (hb:t=false->GX P H0 c.r env H Q) (hc:c.isK=true:=by kernel_rfl) (ho:c.o.ev env=.sc (.bool t):=by kernel_rfl):GX P H0 c env H Q:=g_cond (eqC hc) t ho ha hb
theorem gB {c:AC} (id:Nat) {env:List PV} {H:List Blk} {Q:Ex->List PV->List Blk->Prop} (h:GX P H0 c.b env H λx e h=>match x with
  |.exit i=>if i=id then Q .normal e h else Q (.exit i) e h
  |x=>Q x e h) (hc:c.isB id=true:=by kernel_rfl):GX P H0 c env H Q:=g_block (eqB hc) h
theorem gU {c:AC} (n:Nat) {env e2:List PV} {H h2:List Blk} {Q:Ex->List PV->List Blk->Prop} (hw:WeakS H0 env H e2 h2) (h:GL P H0 c.b n e2 h2 Q) (hc:c.isL=true:=by kernel_rfl):GX P H0 c env H Q:=g_unroll (eqL hc) n hw h
theorem gL {c:AC} {σ τ:Type} {N:Nat} {le:List (Nat×PV)} {H:List Blk} {Q:Ex->List PV->List Blk->Prop} {body:σ->Option (σ⊕τ)} {s:σ} {t:τ} (hs:Xg body s=some t) (T:σ->List (Nat×PV)×List Blk)
  (h0:WeakS H0 (mk N le) H (mk N (T s).1) (T s).2)
  (hb:∀ s o,body s=some o->(∀ u,o=.inr u->u=t)->GX P H0 c.b (mk N (T s).1) (T s).2 λx e h=>match o with
   |.inl s'=>x=.normal/\WeakS H0 e h (mk N (T s').1) (T s').2
   |.inr _=>match x with
    |.normal=>False
    |x=>Q x e h) (hc:c.isL=true:=by kernel_rfl):GX P H0 c (mk N le) H Q:=g_loopF (eqL hc) (λs=>(T s).1) (λs=>(T s).2) body hs h0 hb
theorem gC {f:FuncId} {fn:Func} {args:List PV} {H:List Blk} {Q:PV->List Blk->Prop} (hf:P.funcs[f]?=some fn) (h:GX P H (acOf P fn) (mk fn.ntmps (Vk 0 args)) H (Ends (rsOf P fn) H Q)) (hok:okF P fn=true:=by kernel_rfl) (hmix:P.follows .mixedOrders=true:=by kernel_rfl) (hl:Nat.ble args.length fn.ntmps=true:=by kernel_rfl):ACall P f args H Q:=g_callI hmix (entry hf hok) h hl
theorem bs2 {α β γ:Type} {a:Option α} {f:α->Option β} {g:α->β->Option γ} {o:γ} (h:(a.bind λx=>(f x).bind (g x))=some o):∃ x,a=some x/\∃ y,f x=some y/\g x y=some o:=by
 obtain⟨x,hx,h⟩:=Xa h
 obtain⟨y,hy,h⟩:=Xa h
 exact⟨x,hx,y,hy,h⟩
theorem bs3 {α β γ δ:Type} {a:Option α} {f:α->Option β} {g:α->β->Option γ} {k:α->β->γ->Option δ} {o:δ} (h:(a.bind λx=>(f x).bind λy=>(g x y).bind (k x y))=some o):∃ x,a=some x/\∃ y,f x=some y/\∃ z,g x y=some z/\k x y z=some o:=by
 obtain⟨x,hx,h⟩:=Xa h
 obtain⟨y,hy,z,hz,h⟩:=bs2 h
 exact⟨x,hx,y,hy,z,hz,h⟩
def bqT:BN P:=bq (t:=true) (b:=true) rfl
theorem gE {c:AC} {N:Nat} {le:List (Nat×PV)} {H:List Blk} {Q:Ex->List PV->List Blk->Prop} {rs:List RP} {r:PV} (ws:List (Wb P)) (hQ:∀ e h,resP rs e h=some r->Q .ret e h:=by exact λ_ _ k=>er k) (hE:runR c N le H (ws.map Wb.raw) rs 0=some (.ret,some r,[],ws.map Wb.raw):=by kernel_rfl):GX P H0 c (mk N le) H Q:=g_rr ws .ret hQ hE
end Go.PE
