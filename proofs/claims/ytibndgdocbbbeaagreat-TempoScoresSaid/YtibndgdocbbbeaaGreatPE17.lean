/- A part of the proof. -/
import Derived.Test.YtibndgdocbbbeaaGreatPE16r
set_option linter.all false
namespace Go.PE
open Go.RowKit
theorem orderOk_sound {ops:Array Oper} {m:Array Nat} {l:List DI} (h:orderOk ops m l=true):Order ops l λi j=>ancB ops m i j=true:=by
 unfold orderOk at h
 simp only[Bool.and_eq_true,List.all_eq_true,List.mem_range,decide_eq_true_eq,Bool.or_eq_true,Bool.not_eq_true']at h
 obtain⟨⟨⟨⟨h0,h1⟩,h2⟩,h5⟩,h6⟩:=h
 have hb:∀ i j,ancB ops m i j=true->i<ops.size/\j<ops.size:=λi j h=>by
  unfold ancB at h
  simp only[Bool.and_eq_true,decide_eq_true_eq]at h
  exact⟨h.1.1,h.1.2⟩
 have pair:∀ i x j y,l[i]?=some x->l[j]?=some y->i≠j->((x.looks.all λt=>y.ai.dst !=some t||ancB ops m i j||ancB ops m j i)&&(x.ai.dst.isNone||x.ai.dst !=y.ai.dst)&&(!x.ord||Yx y.ai.op||ancB ops m i j||ancB ops m j i||(isRd y.ai.op&&y.free.contains i)))=true:=λi x j y hx hy hij=>by
  have:=h2 i (List.getElem?_eq_some_iff.1 hx).1 j (List.getElem?_eq_some_iff.1 hy).1
  rcases this with h|h
  ·exact absurd (by simpa using h) hij
  ·rw[hx,hy]at h;exact h
 refine⟨λi j h=>?_,λi x hx t ht j y hji hy hyd=>?_,λi x j y t hx hy hxd hyd=>?_,λi x hx hord j y hji hy hp=>?_,λt ht hts j hj=>?_,λi o ho e he hbi=>?_,h0⟩
 ·obtain⟨hi,hj⟩:=hb i j h
  rcases h1 i hi j hj with h'|⟨hlt,h'⟩
  ·rw[h]at h';cases h'
  ·refine⟨hlt,?_⟩
   cases ho:ops[i]? with
   |none=>rw[ho]at h';simp at h'
   |some o=>
    rw[ho]at h'
    simp only[Option.any_some]at h'
    obtain⟨e,he,hb⟩:=Array.any_eq_true'.1 h'
    simp only[Bool.and_eq_true,Bool.or_eq_true,beq_iff_eq,decide_eq_true_eq]at hb
    exact⟨o,rfl,e,he,hb.1,hb.2⟩
 ·have:=pair i x j y hx hy (λe=>hji e.symm)
  simp only[Bool.and_eq_true,List.all_eq_true]at this
  have:=this.1.1 t ht
  simp only[Bool.or_eq_true,bne_iff_ne]at this
  rcases this with (h|h)|h
  ·exact absurd hyd h
  ·exact .inl h
  ·exact .inr h
 ·by_cases hij:i=j
  ·exact hij
  ·have:=pair i x j y hx hy hij
   simp only[Bool.and_eq_true,Bool.or_eq_true,bne_iff_ne]at this
   rcases this.1.2 with h|h
   ·rw[hxd]at h;cases h
   ·exact absurd (hxd.trans hyd.symm) h
 ·have:=pair i x j y hx hy (λe=>hji e.symm)
  simp only[Bool.and_eq_true,Bool.or_eq_true,Bool.not_eq_true']at this
  rcases this.2 with (((h|h)|h)|h)|h
  ·rw[hord]at h;cases h
  ·rw[hp]at h;cases h
  ·exact .inl h
  ·exact .inr (.inl h)
  ·exact .inr (.inr ⟨h.1,by simpa using h.2⟩)
 ·rcases h5 t hts with h|h
  ·omega
  ·exact h j hj
 ·have hi:i<ops.size:=(Array.getElem?_eq_some_iff.1 ho).1
  have:=h6 i hi
  rw[ho]at this
  simp only[Option.all_some]at this
  have:=Array.all_eq_true'.1 this e he
  simp only[Bool.or_eq_true,Bool.not_eq_true',decide_eq_true_eq]at this
  rcases this with h|h
  ·rw[hbi]at h;cases h
  ·exact h
theorem compDraw_sound {P:Program} {ops:Array Oper} {ac:AC} (h:compDraw P ops=some ac):∃ head tail,ac=.draw head tail/\Order ops head (λi j=>ancB ops (Region.before ops) i j=true)/\
  (∀ (i:Nat) (x:DI),head[i]?=some x->∃ o,ops[i]?=some o/\compI P ops o=some x.ai)/\(ops.toList.drop head.length).mapM (compI P ops)=some tail:=by
 simp only[compDraw,Option.bind_eq_bind,Option.bind_eq_some_iff]at h
 obtain⟨pre,_,head,hhead,tail,htail,h⟩:=h
 split at h
 case isFalse=>cases h
 rename_i hok
 simp only[Option.pure_def,Option.some.injEq]at h
 refine⟨head,tail,h.symm,orderOk_sound hok,λi x hx=>?_,htail⟩
 obtain⟨h1,h2⟩:=Wz hhead
 have hi:i<head.length:=(List.getElem?_eq_some_iff.1 hx).1
 have hy:=List.getElem?_eq_getElem (show i<((ops.toList.take (rowFrom ops (Region.before ops))).zipIdx).length by rw[h1];exact hi)
 have h3:=h2 i _ x hy hx
 simp only[Option.map_eq_some_iff]at h3
 obtain⟨ai,hai,rfl⟩:=h3
 have hg:ops[i]?=some (((ops.toList.take (rowFrom ops (Region.before ops))).zipIdx)[i]'(by rw[h1];exact hi)).1:=by
  simp only[List.getElem_zipIdx,List.getElem_take]
  have hil:i<ops.size:=by
   have:=hi;rw[<-h1]at this;simp at this;omega
  simp[hil]
 exact⟨_,hg,hai⟩
def Weak (H0:List Blk) (env:List PV) (H:List Blk) (env2:List PV) (H2:List Blk):Prop:=
 (H2=H/\env2.length=env.length/\∀ (i:Nat) (p:PV),env2[i]?=some p->p=.any\/env[i]?=some p)\/
 (H0.length<=H2.length/\Left H2.length H0 H H2/\env2.length=env.length/\∀ (i:Nat) (p:PV),env2[i]?=some p->p=.any\/∃ q,env[i]?=some q/\p=q.strip H2.length)
def WeakS (H0:List Blk) (env:List PV) (H:List Blk) (env2:List PV) (H2:List Blk):Prop:=
 ∀ (g0:Gh) (w0:World) (a:Act) (w:World) (g:Gh),Inv g0 H0 w0->At g0 H0 w0 env H a w g->∃ g',At g0 H0 w0 env2 H2 a w g'
theorem WeakS.refl (H0:List Blk) (env:List PV) (H:List Blk):WeakS H0 env H env H:=λ_ _ _ _ g _ h=>⟨g,h⟩
theorem WeakS.trans {H0:List Blk} {env env2 env3:List PV} {H H2 H3:List Blk} (h:WeakS H0 env H env2 H2) (k:WeakS H0 env2 H2 env3 H3):WeakS H0 env H env3 H3:=
 λg0 w0 a w g hI hA=>let ⟨g',h'⟩:=h g0 w0 a w g hI hA;k g0 w0 a w g' hI h'
def loopN (H0:List Blk) (step:List PV->List Blk->(Ex->List PV->List Blk->Prop)->Prop):Nat->List PV->List Blk->(Ex->List PV->List Blk->Prop)->Prop
 |0,_,_,_=>False
 |n+1,env,H,Q=>∃ env2 H2,WeakS H0 env H env2 H2/\step env2 H2 λx env' H'=>match x with
  |.normal=>loopN H0 step n env' H' Q
  |x=>Q x env' H'
def AC.flat:AC->Bool
 |.seq a b|.cond _ a b=>a.flat&&b.flat
 |.block _ c|.loop c=>c.flat
 |.range ..=>false
 |_=>true
def jumpEx:Option Code->Option Ex
 |none=>some .normal
 |some .ret=>some .ret
 |some (.exit id)=>some (.exit id)
 |_=>none
def setLoop (H:List Blk) (k:Nat) (st:LoopState) (pend:Option Code):Option (List Blk):=
 match H[k]? with
 |some (.loop env ps ai bd cA cB _ _)=>some (H.set k (.loop env ps ai bd cA cB st pend))
 |_=>none
def AX (P:Program) (H0:List Blk):AC->List PV->List Blk->(Ex->List PV->List Blk->Prop)->Prop
 |.skip,env,H,Q=>Q .normal env H
 |.ops l,env,H,Q=>AOps P l env H (Q .normal)
 |.draw l tl,env,H,Q=>ADr P H.length l env (H++Va l) 0 λenv' F' ts=>sepB l ts=true/\AOps P tl env' F' (Q .normal)
 |.seq a b,env,H,Q=>AX P H0 a env H λx env' H'=>match x with
  |.normal=>∃ env2 H2,WeakS H0 env' H' env2 H2/\AX P H0 b env2 H2 Q
  |x=>Q x env' H'
 |.cond c a b,env,H,Q=>match c.ev env with
  |.sc (.bool true)=>AX P H0 a env H Q
  |.sc (.bool false)=>AX P H0 b env H Q
  |_=>False
 |.block id c,env,H,Q=>AX P H0 c env H λx env' H'=>match x with
  |.exit i=>if i=id then Q .normal env' H' else Q (.exit i) env' H'
  |x=>Q x env' H'
 |.loop c,env,H,Q=>∃ n,loopN H0 (AX P H0 c) n env H Q
 |.range f ps ai bd cA cB,env,H,Q=>match f.ev env with
  |.fn (.func n) first cap=>ACall P n (first++[.yl H.length]++cap) (H++[.loop env ps ai bd cA cB .ready none]) λ_ H'=>
   match H'[H.length]? with
   |some (.loop _ _ _ _ _ _ st pend)=>st≠.busy/\∃ x H2,jumpEx pend=some x/\setLoop H' H.length .exhausted pend=some H2/\Q x env H2
   |_=>False
  |_=>False
 |.exit id,env,H,Q=>Q (.exit id) env H
 |.ret,env,H,Q=>Q .ret env H
 |.bad,_,_,_=>False
section
variable {P:Program} {g0:Gh} {H0:List Blk} {w0:World} {ro:Option Nat} {nn:Nat}
theorem DOk.cut {g:Gh} {w0 w:World} {ds:List Deferred} (h:DOk g w0 w ds) (m:Nat):DOk (g.cut m) w0 w ds:=by
 obtain⟨bs,h1,h2,h3⟩:=h
 refine⟨bs,h1,h2,λb hb=>?_⟩
 obtain⟨k1,k2,k3,k4⟩:=h3 b hb
 exact⟨k1,k2,by show(g.O b).bind _=none;rw[k3];rfl,k4⟩
theorem weak_sound (hI0:Inv g0 H0 w0) {env env2:List PV} {H H2:List Blk} {a:Act} {w:World} {g:Gh} (hA:At g0 H0 w0 env H a w g) (h:Weak H0 env H env2 H2):∃ g',At g0 H0 w0 env2 H2 a w g':=by
 rcases h with ⟨rfl,hl,hp⟩|⟨hm,hL,hl,hp⟩
 ·refine⟨g,hA.step,hA.inv,⟨by rw[hl];exact hA.env.1,λi p v h1 h2=>?_⟩,hA.defers,hA.len⟩
  rcases hp i p h1 with rfl|h3
  ·exact .any _
  ·exact hA.env.2 i p v h3 h2
 ·obtain⟨h1,h2⟩:=cut_inv hI0 hA.step hA.inv hm hL
  refine⟨_,h2,h1,⟨by rw[hl];exact hA.env.1,λi p v h1 h2=>?_⟩,hA.defers.cut _,hm⟩
  rcases hp i p h1 with rfl|⟨q,h3,rfl⟩
  ·exact .any _
  ·exact(hA.env.2 i q v h3 h2).strip _
theorem lift_then {Q:Ex->List PV->List Blk->Prop} {next:Act->World->Prop} {N:List PV->List Blk->Prop} (hn:∀ env H a w g,N env H->At g0 H0 w0 env H a w g->next a w) {e:Exit} {a:Act} {w:World}
  (h:Lift g0 H0 w0 (λx env H=>match x with|.normal=>N env H|x=>Q x env H) e a w):Exit.then next (Lift g0 H0 w0 Q) e a w:=by
 cases e with
 |normal=>obtain⟨env,H,g,q,r⟩:=h;exact hn env H a w g q r
 |exit id=>exact h
 |ret=>exact h
 |goto l=>exact h
 |panic c=>exact h
 |outgrown=>exact h
theorem Vu {c:Code} {Q Q':Exit->Act->World->Prop} {a:Act} {w:World} (h:∀ e a w,Q e a w->Q' e a w) (k:c.wpIn (FF ro) nn P Q a w):c.wpIn (FF ro) nn P Q' a w:=wpIn_mono k h
theorem wp_loop_n {c:Code} {Q:Exit->Act->World->Prop} (R:Nat->Act->World->Prop) (n:Nat) {a:Act} {w:World} (h₀:R n a w)
  (round:∀ n a w,R n a w->∃ m,n=m+1/\c.wpIn (FF ro) nn P (Exit.then (R m) Q) a w):(Code.loop c).wpIn (FF ro) nn P Q a w:=by
 intro b k cs hro hb hr
 have key:∀ n a w,R n a w->∃ e a' w',Q e a' w'/\ArrivesIn (Machine.fenced P (FF ro)) P (lone (b.atR a (.code c::.inLoop c::k)) cs w) b k cs e a' w':=by
  intro n
  induction n with
  |zero=>intro a w h;obtain⟨m,hm,_⟩:=round 0 a w h;omega
  |succ n ih=>
   intro a w h
   obtain⟨m,hm,hr1⟩:=round (n+1) a w h
   obtain rfl:m=n:=by omega
   obtain⟨e,a₁,w₁,hq,harr⟩:=hr1 b (.inLoop c::k) cs hro hb hr
   cases e with
   |normal=>
    obtain⟨e₂,a₂,w₂,hq₂,harr₂⟩:=ih a₁ w₁ hq
    exact⟨e₂,a₂,w₂,hq₂,.of_steps (StepsIn.trans harr (.one (fenced_calm hb hr rfl) stepR_inLoop)) harr₂⟩
   |exit id=>exact⟨_,a₁,w₁,hq,.pass (x:=.inLoop c) rfl (λ_ _=>.inl (by simp)) harr⟩
   |goto l=>exact⟨_,a₁,w₁,hq,.pass (x:=.inLoop c) rfl (λ_ _=>.inl (by simp)) harr⟩
   |ret=>exact⟨_,a₁,w₁,hq,.pass (x:=.inLoop c) rfl (λ_ _=>.inl (by simp)) harr⟩
   |panic ch=>exact⟨_,a₁,w₁,hq,.pass (x:=.inLoop c) rfl (λ_ _=>.inl (by simp)) harr⟩
   |outgrown=>exact⟨_,a₁,w₁,hq,.pass (x:=.inLoop c) rfl (λ_ _=>.inl (by simp)) harr⟩
 obtain⟨e,a',w',hq,harr⟩:=key n a w h₀
 exact⟨e,a',w',hq,.of_steps (.one (fenced_calm hb hr rfl) stepR_loop) harr⟩
theorem Wq {b:Frame} {a:Act} {k:List Item} {cs:List Frame} {w:World} {c:Code}:step P (lone (b.atR a (.code (.scope c)::k)) cs w)=.next (lone (b.atR a (.code c::.inScope c::k)) cs w):=
 step_lone_go (by simp[stepG,stepG.exec,Frame.atR])
theorem stepR_inScope {b:Frame} {a:Act} {k:List Item} {cs:List Frame} {w:World} {c:Code}:step P (lone (b.atR a (.inScope c::k)) cs w)=.next (lone (b.atR a k) cs w):=
 step_lone_go (by simp[stepG,stepG.exec,Frame.atR])
theorem wpIn_scope_straight {c:Code} {Q:Exit->Act->World->Prop} {a:Act} {w:World} (hg:∀ l a w,¬ Q (.goto l) a w) (h:c.wpIn (FF ro) nn P Q a w):(Code.scope c).wpIn (FF ro) nn P Q a w:=by
 intro b k cs hro hb hr
 have h0:(lone (b.atR a (.code (.scope c)::k)) cs w).fenced P (FF ro):=fenced_calm hb hr rfl
 obtain⟨e,a₁,w₁,hq,harr⟩:=h b (.inScope c::k) cs hro hb hr
 cases e with
 |normal=>exact⟨.normal,a₁,w₁,hq,.head h0 Wq (StepsIn.trans harr (.one (fenced_calm hb hr rfl) stepR_inScope))⟩
 |exit id=>
  have hx:exitTo id (.inScope c::k)=exitTo id k:=by simp[exitTo]
  exact⟨_,a₁,w₁,hq,λk' hk=>.head h0 Wq (harr.1 k' (by rw[hx];exact hk)),
   λhr' hk=>let ⟨k₁,h1,h2⟩:=harr.2 hr' (by rw[hx];exact hk);⟨k₁,h1,.head h0 Wq h2⟩⟩
 |goto l=>exact(hg _ _ _ hq).elim
 |ret=>exact⟨_,a₁,w₁,hq,.of_steps (.one h0 Wq) harr⟩
 |panic ch=>exact⟨_,a₁,w₁,hq,.of_steps (.one h0 Wq) harr⟩
 |outgrown=>exact⟨_,a₁,w₁,hq,.of_steps (.one h0 Wq) harr⟩
theorem flat_l {x y:AC} (h:ro=none\/(AC.seq x y).flat=true):ro=none\/x.flat=true:=h.imp id λh=>by simp only[AC.flat,Bool.and_eq_true]at h;exact h.1
theorem flat_r {x y:AC} (h:ro=none\/(AC.seq x y).flat=true):ro=none\/y.flat=true:=h.imp id λh=>by simp only[AC.flat,Bool.and_eq_true]at h;exact h.2
theorem flat_cl {c:Opd} {x y:AC} (h:ro=none\/(AC.cond c x y).flat=true):ro=none\/x.flat=true:=h.imp id λh=>by simp only[AC.flat,Bool.and_eq_true]at h;exact h.1
theorem flat_cr {c:Opd} {x y:AC} (h:ro=none\/(AC.cond c x y).flat=true):ro=none\/y.flat=true:=h.imp id λh=>by simp only[AC.flat,Bool.and_eq_true]at h;exact h.2
theorem range_sound {gop:Operand} {ps:Array Nat} {cA cB:Code} {f':Opd} {ai bd:AC} {Q:Ex->List PV->List Blk->Prop} {g:Gh} {H:List Blk} {env:List PV} {a:Act} {w:World} (hA:At g0 H0 w0 env H a w g) (hf:Xk gop=some f')
  (h:AX P H0 (.range f' ps ai bd cA cB) env H Q):(Code.rangeFunc gop ps cA cB).wpIn (FF none) nn P (Lift g0 H0 w0 Q) a w:=by
 have hv:=Xj hA.env hf
 simp only[AX]at h
 split at h
 case h_2=>exact h.elim
 rename_i n first cap e
 rw[e]at hv
 obtain⟨⟨fn,hfn,hname,hbody⟩,hcall⟩:=h
 generalize hx:a.eval gop=u at hv
 cases hv with
 |@fn _ _ _ us cs hn1 hm k1 k2=>
  refine wpIn_rangeFunc λfn0 _=>?_
  obtain⟨i1,s1⟩:=alloc_other hA.inv H0.length (.deferred (some []))
  let r:Loop:={ state:=.ready,pending:=none,fn:=fn0,tmps:=a.tmps,params:=ps,assign:=cA,body:=cB,defers:=w.heap.size }
  obtain⟨g1,s2,i2,hB⟩:=new_loop i1 (env:=env) r ai bd hA.env
  have hsz:(w.alloc (.deferred (some []))).heap.size=w.heap.size+1:=Yv w _
  rw[hsz]at hB
  have hargs:LR g1 (first++[.yl H.length]++cap) (us++#[.func (.yield (w.heap.size+1)) #[] #[]]++cs):=by
   refine(LR.append (LR.append (LR.mono s2.le ⟨hn1,k1⟩) ⟨rfl,λi p v hp hv=>?_⟩) (LR.mono s2.le ⟨hm,k2⟩))
   cases i with
   |zero=>simp at hp hv;subst hp;subst hv;exact .yl hB
   |succ i=>simp at hp
  have hdf:DOk g1 w0 ((w.alloc (.deferred (some []))).alloc (.loop r)) ({ target:=.collected w.heap.size,args:=#[] }::a.defers):=by
   obtain⟨bs,d1,d2,d3⟩:=(hA.defers.step s1).step s2
   have hlt:w.heap.size<(w.alloc (.deferred (some []))).heap.size:=by rw[hsz];omega
   refine⟨w.heap.size::bs,List.nodup_cons.2 ⟨λhm=>?_,d1⟩,by rw[d2];rfl,λb hb=>?_⟩
   ·obtain⟨bs',e1,e2,e3⟩:=hA.defers
    have:bs=bs':=by
     have:=d2.symm.trans e2
     exact(List.map_inj_right (λx y hxy=>by simpa using hxy)).1 this
    rw[this]at hm
    have:=(e3 _ hm).2.1
    omega
   ·rcases List.mem_cons.1 hb with rfl|hb
    ·exact⟨hA.step.size,Nat.lt_of_lt_of_le hlt s2.size,s2.none hlt (O_none_new hA.inv (Nat.le_refl _)),(s2.block _ hlt (O_none_new hA.inv (Nat.le_refl _))).trans (heap_alloc_new w _)⟩
    ·exact d3 b hb
  refine⟨w.heap.size+1,[{ target:=.collected w.heap.size,args:=#[] }],((w.alloc (.deferred (some []))).alloc (.loop r)),{ target:=.fn (.func n) cs,args:=us++#[.func (.yield (w.heap.size+1)) #[] #[]] },((w.alloc (.deferred (some []))).alloc (.loop r)),n,us++#[.func (.yield (w.heap.size+1)) #[] #[]]++cs,((w.alloc (.deferred (some []))).alloc (.loop r)),run_enterLoop_outer _ _ _ _ _,?_,λ_ _=>trivial,?_,λe=>(by cases e),?_⟩
  ·simp[resolve,hx,Deferred.ofValue];rfl
  ·have hb:fn.body≠none:=by intro e;rw[e]at hbody;cases hbody
   simp[invoke,callFunc,hfn,hname,hb]
  ·refine calls_FF ((hcall g1 _ _ i2 hargs).mono ?_)
   rintro e w' ⟨v,r',H',g',rfl,hq,hS,hl,hI2,hr⟩
   split at hq
   case h_2=>exact hq.elim
   rename_i env2 ps2 ai2 bd2 cA2 cB2 st pend hk
   obtain⟨hst,x,H2,hj,hset,hq⟩:=hq
   obtain⟨r2,q1,q2,q3,q4,q5,q6,q7,q8⟩:=Uu hI2 hk (hS.le.B _ _ hB)
   obtain⟨i3,s3⟩:=q8 .exhausted pend
   have hend:=run_endLoop (P:=P) q1 (by rw[q5];exact hst)
   simp only[setLoop,hk,Option.some.injEq]at hset
   subst hset
   have e6:({ r2 with state:=LoopState.exhausted }:Loop)={ r2 with state:=.exhausted,pending:=pend }:=by rw[<-q6]
   rw[e6,q6]at hend
   have hAt:At g0 H0 w0 env (H'.set H.length (.loop env2 ps2 ai2 bd2 cA2 cB2 .exhausted pend)) { a with defers:=[{ target:=.collected w.heap.size,args:=#[] }]++a.defers } (w'.putObj (w.heap.size+1) (.loop { r2 with state:=.exhausted,pending:=pend })) g':=by
    have hl0:=hA.len
    refine⟨(((hA.step.trans s1 (Nat.le_refl _)).trans s2 hA.len).trans hS (by simp;omega)).trans (s3 H0.length) (Nat.le_refl _),i3,(hA.env.mono s2.le).mono hS.le,(hdf.step hS).step (s3 0),?_⟩
    simp at hl ⊢;omega
   refine⟨pend,_,hend,?_⟩
   cases pend with
   |none=>cases hj;exact⟨env,_,g',hq,hAt⟩
   |some c=>
    cases c with
    |ret=>cases hj;exact wpIn_ret ⟨env,_,g',hq,hAt⟩
    |exit id=>cases hj;exact wpIn_exit ⟨env,_,g',hq,hAt⟩
    |_=>cases hj
theorem AX_sound (hmix:P.follows .mixedOrders=true) (hI0:Inv g0 H0 w0):∀ (c:Code) (ac:AC),comp P c=some ac->(ro=none\/ac.flat=true)->∀ {Q:Ex->List PV->List Blk->Prop} {g:Gh} {H:List Blk} {env:List PV} {a:Act} {w:World},At g0 H0 w0 env H a w g->AX P H0 ac env H Q->c.wpIn (FF ro) nn P (Lift g0 H0 w0 Q) a w:=by
 intro c
 induction c with
 |skip=>
  intro ac hc hfl Q g H env a w hA h
  cases hc
  exact wpIn_skip ⟨env,H,g,h,hA⟩
 |region id ops draw=>
  intro ac hc hfl Q g H env a w hA h
  simp only[comp]at hc
  split at hc
  ·rename_i hd
   obtain⟨head,tail,rfl,hO,hops,htl⟩:=compDraw_sound hc
   subst hd
   exact draw_sound hmix hO hops htl hA (λenv H a w g hk hA=>⟨env,H,g,hk,hA⟩) h
  ·rename_i hd
   simp only[Option.map_eq_some_iff]at hc
   obtain⟨l,hl,rfl⟩:=hc
   have hd:draw=false:=by simpa using hd
   subst hd
   exact wpIn_region_list (ops_sound (λenv H a w g hk hA=>⟨env,H,g,hk,hA⟩) ops.toList l hl hA h)
 |seq x y ihx ihy=>
  intro ac hc hfl Q g H env a w hA h
  simp only[comp,Option.bind_eq_bind,Option.bind_eq_some_iff,Option.pure_def,Option.some.injEq]at hc
  obtain⟨ax,hx,ay,hy,rfl⟩:=hc
  simp only[AX]at h
  exact wpIn_seq (Vu (λe a w hl=>lift_then (N:=λenv' H'=>∃ env2 H2,WeakS H0 env' H' env2 H2/\AX P H0 ay env2 H2 Q) (λenv H a w g ⟨_,_,hw,hk⟩ hA=>let ⟨_,hA'⟩:=hw _ _ _ _ _ hI0 hA;ihy ay hy (flat_r hfl) hA' hk) hl) (ihx ax hx (flat_l hfl) hA h))
 |cond c x y ihx ihy=>
  intro ac hc hfl Q g H env a w hA h
  simp only[comp,Option.bind_eq_bind,Option.bind_eq_some_iff,Option.pure_def,Option.some.injEq]at hc
  obtain⟨c',hc',ax,hx,ay,hy,rfl⟩:=hc
  have hv:=Xj hA.env hc'
  simp only[AX]at h
  split at h
  ·rename_i e;rw[e]at hv;exact wpIn_cond_true (Yr hv).1 (ihx ax hx (flat_cl hfl) hA h)
  ·rename_i e;rw[e]at hv;exact wpIn_cond_false (Yr hv).1 (ihy ay hy (flat_cr hfl) hA h)
  ·exact h.elim
 |block id c ih=>
  intro ac hc hfl Q g H env a w hA h
  simp only[comp,Option.map_eq_some_iff]at hc
  obtain⟨ac',hc',rfl⟩:=hc
  simp only[AX]at h
  refine wpIn_block (Vu (λe a w hl=>?_) (ih ac' hc' hfl hA h))
  cases e with
  |normal=>exact hl
  |exit id'=>
   obtain⟨env,H,g,q,r⟩:=hl
   simp only[Exit.inBlock]
   simp only at q
   split at q
   ·rename_i e;rw[if_pos e];exact⟨env,H,g,q,r⟩
   ·rename_i e;rw[if_neg e];exact⟨env,H,g,q,r⟩
  |ret=>exact hl
  |goto l=>exact hl
  |panic c=>exact hl
  |outgrown=>exact hl
 |loop c ih=>
  intro ac hc hfl Q g H env a w hA h
  simp only[comp,Option.map_eq_some_iff]at hc
  obtain⟨ac',hc',rfl⟩:=hc
  simp only[AX]at h
  obtain⟨n,h⟩:=h
  refine wp_loop_n (λn a w=>∃ env H g,At g0 H0 w0 env H a w g/\loopN H0 (AX P H0 ac') n env H Q) n ⟨env,H,g,hA,h⟩ λn a w=>?_
  rintro⟨env,H,g,hA,h⟩
  cases n with
  |zero=>exact h.elim
  |succ m=>
   obtain⟨env2,H2,hw,h⟩:=h
   obtain⟨g',hA'⟩:=hw _ _ _ _ _ hI0 hA
   exact⟨m,rfl,Vu (λe a w hl=>lift_then (N:=λenv' H'=>loopN H0 (AX P H0 ac') m env' H' Q) (λenv H a w g hk hA=>⟨env,H,g,hA,hk⟩) hl) (ih ac' hc' hfl hA' h)⟩
 |exit id=>
  intro ac hc hfl Q g H env a w hA h
  cases hc
  exact wpIn_exit ⟨env,H,g,h,hA⟩
 |ret=>
  intro ac hc hfl Q g H env a w hA h
  cases hc
  exact wpIn_ret ⟨env,H,g,h,hA⟩
 |rangeFunc gop ps cA cB _ _=>
  intro ac hc hfl Q g H env a w hA h
  simp only[comp,Option.bind_eq_bind,Option.bind_eq_some_iff,Option.pure_def,Option.some.injEq]at hc
  obtain⟨f',hf',ai,hai,bd,hbd,rfl⟩:=hc
  have hro:ro=none:=by
   rcases hfl with h|h
   ·exact h
   ·cases h
  subst hro
  exact range_sound hA hf' h
 |scope c ih=>intro ac hc hfl Q g H env a w hA h;exact wpIn_scope_straight (λ_ _ _ h=>h) (ih ac hc hfl hA h)
 |label=>intro ac hc hfl Q g H env a w hA h;cases hc;exact wpIn_label ⟨env,H,g,h,hA⟩
 |goto=>intro ac hc hfl Q g H env a w hA h;cases hc;exact h.elim
 |refuse=>intro ac hc hfl Q g H env a w hA h;cases hc;exact h.elim
inductive RP where
 |t (n:Nat)
 |c (n:Nat) (ag:Option Nat)
 deriving Inhabited
def rvComp (P:Program):ResultVar->Option RP
 |.tmp t=>some (.t t)
 |.cell a t=>(agOf P t).map (.c a)
def rvRun (tmps:Array Value):ResultVar->Sem Value
 |.tmp t=>pure (tmps.getD t undef)
 |.cell a t=>do loadVar t (<-asAddr (tmps.getD a undef))
def compRes (P:Program) (fn:Func):Option (List RP):=fn.results.toList.mapM (rvComp P)
def RP.ev (env:List PV) (H:List Blk):RP->Option PV
 |.t n=>some ((env[n]?).getD .any)
 |.c n ag=>match (env[n]?).getD .any with
  |.bp k off=>match H[k]? with
   |some (.cells cs)=>Yy ag (cs.drop off)
   |_=>none
  |_=>none
def resP (rs:List RP) (env:List PV) (H:List Blk):Option PV:=
 (rs.mapM (RP.ev env H)).map λl=>match l with
  |[p]=>p
  |l=>.tup l
theorem tmp_sound {g:Gh} {env:List PV} {a:Act} (hE:LR g env a.tmps) (n:Nat):RV g ((env[n]?).getD .any) (a.tmps.getD n undef):=Xj (x:=.tmp n) (y:=.t n) hE rfl
theorem res_sound {g:Gh} {H:List Blk} {env:List PV} {a:Act} {w:World} {fn:Func} {rs:List RP} (hI:Inv g H w) (hE:LR g env a.tmps) (hr:compRes P fn=some rs) {p:PV} (hp:resP rs env H=some p):∃ v,(results fn a.tmps).run P w=.ok v w/\RV g p v:=by
 simp only[resP,Option.map_eq_some_iff]at hp
 obtain⟨l,hl,rfl⟩:=hp
 have key:∀ (rv:List ResultVar) (rs:List RP) (l:List PV),rv.mapM (rvComp P)=some rs->rs.mapM (RP.ev env H)=some l->
   ∃ vs:List Value,(rv.mapM (rvRun a.tmps)).run P w=.ok vs w/\LR g l vs.toArray:=by
  intro rv
  induction rv with
  |nil=>
   intro rs l h1 h2
   simp at h1;subst h1
   simp at h2;subst h2
   exact⟨[],by simp,LR.nil⟩
  |cons x rv ih=>
   intro rs l h1 h2
   rw[List.mapM_cons]at h1
   simp only[Option.bind_eq_bind,Option.bind_eq_some_iff,Option.pure_def,Option.some.injEq]at h1
   obtain⟨r,hr1,rs',hrs,rfl⟩:=h1
   rw[List.mapM_cons]at h2
   simp only[Option.bind_eq_bind,Option.bind_eq_some_iff,Option.pure_def,Option.some.injEq]at h2
   obtain⟨q,hq,l',hl',rfl⟩:=h2
   obtain⟨vs,h3,h4⟩:=ih rs' l' hrs hl'
   have one:∃ v,(rvRun a.tmps x).run P w=.ok v w/\RV g q v:=by
    cases x with
    |tmp t=>
     simp only[rvComp,Option.some.injEq]at hr1
     subst hr1
     simp only[RP.ev,Option.some.injEq]at hq
     subst hq
     exact⟨_,rfl,tmp_sound hE t⟩
    |cell x t=>
     simp only[rvComp,Option.map_eq_some_iff]at hr1
     obtain⟨ag,hag,rfl⟩:=hr1
     simp only[RP.ev]at hq
     have hv:=tmp_sound hE x
     split at hq
     case h_2=>cases hq
     rename_i k off e
     split at hq
     case h_2=>cases hq
     rename_i cs hk
     rw[e]at hv
     generalize hx:a.tmps.getD x undef=u at hv
     obtain⟨b,rfl,hrd⟩:=reads_bp hI hk hv
     obtain⟨v,h5,h6⟩:=load_reads (P:=P) hrd hag hq
     exact⟨v,by simp only[rvRun,hx];simp[asAddr,h5],h6⟩
   obtain⟨v,h5,h6⟩:=one
   refine⟨v::vs,by rw[List.mapM_cons];simp[h5,h3],⟨by simpa using h4.1,λi p u hp hu=>?_⟩⟩
   cases i with
   |zero=>simp at hp hu;subst hp;subst hu;exact h6
   |succ i=>exact h4.2 i p u (by simpa using hp) (by simpa using hu)
 obtain⟨vs,h1,h2⟩:=key fn.results.toList rs l hr hl
 have hrun:(results fn a.tmps).run P w=.ok (if h:vs.toArray.size=1 then vs.toArray[0] else .tuple vs.toArray) w:=by
  have e0:results fn a.tmps=(do let vs <-fn.results.mapM (rvRun a.tmps);pure (if h:vs.size=1 then vs[0] else .tuple vs)):=rfl
  rw[e0,Array.mapM_eq_mapM_toList]
  simp only[Sem.run_bind,Sem.run_map]
  have e:(fn.results.toList.mapM (rvRun a.tmps)).run P w=.ok vs w:=h1
  rw[e]
  rfl
 refine⟨_,hrun,?_⟩
 match l,vs,h2 with
 |[p],[v],h2=>exact h2.2 0 p v rfl rfl
 |[],vs,h2=>
  have:vs=[]:=List.eq_nil_of_length_eq_zero (by simpa using h2.1.symm)
  subst this
  exact .tup rfl (λi q u hq _=>by simp at hq)
 |[_],[],h2=>simp[LR]at h2
 |[_],_::_::_,h2=>simp[LR]at h2
 |p::q::l,vs,h2=>
  have hs:¬ vs.toArray.size=1:=by have:=h2.1;simp at this ⊢;omega
  rw[dif_neg hs]
  exact .tup h2.1 h2.2
def PSub (p q:PV):Prop:=∀ (g:Gh) (v:Value),RV g p v->RV g q v
theorem PSub.refl (p:PV):PSub p p:=λ_ _ h=>h
def Ends (rs:List RP) (H:List Blk) (Q:PV->List Blk->Prop):Ex->List PV->List Blk->Prop:=λx env H'=>
 (x=.normal\/x=.ret)/\∃ e2 H2,WeakS H env H' e2 H2/\∃ r,resP rs e2 H2=some r/\(Q r H2\/∃ m H3 r2,H.length<=m/\Left m H H2 H3/\PSub (r.strip m) r2/\Q r2 H3)
theorem ACall.of_bodyW {f:FuncId} {fn:Func} {c:Code} {ac:AC} {rs:List RP} {args:List PV} {H:List Blk} {Q:PV->List Blk->Prop} (hmix:P.follows .mixedOrders=true) (hf:P.funcs[f]?=some fn) (hname:fn.name≠ "runtime.NumGoroutine") (hb:fn.body=some c) (hc:comp P c=some ac) (hr:compRes P fn=some rs)
  {env2:List PV} {H2:List Blk} (hw:WeakS H (args++List.replicate (fn.ntmps-args.length) (.tup [])) H env2 H2) (h:AX P H ac env2 H2 (Ends rs H Q)):ACall P f args H Q:=by
 refine⟨⟨fn,hf,hname,by rw[hb];rfl⟩,λg w vs hI hargs=>callsIn_wide (n:=0).1 (callsIn_of_wp_marks hf hb trivial ?_)⟩
 have hE:LR g (args++List.replicate (fn.ntmps-args.length) (.tup [])) (vs++Array.replicate (fn.ntmps-vs.size) undef):=by
  refine hargs.append ⟨by simp[hargs.1],λi p v hp hv=>?_⟩
  rw[List.getElem?_replicate]at hp
  rw[Array.getElem?_replicate]at hv
  split at hp
  ·split at hv
   ·cases hp;cases hv;exact .tup rfl (λi q u hq _=>by simp at hq)
   ·cases hv
  ·cases hp
 obtain⟨g1,hA1⟩:=hw g w { tmps:=vs++Array.replicate (fn.ntmps-vs.size) undef,defers:=[] } w g hI ⟨.refl _ _ _,hI,hE,.nil _ _ _,Nat.le_refl _⟩
 have hwp:=AX_sound (P:=P) (ro:=none) (nn:=0) hmix hI c ac hc (.inl rfl) (Q:=Ends rs H Q) hA1 h
 refine Vu (ro:=none) (λe a w' hl=>?_) hwp
 have fin:∀ x,(∃ env' H' g',Ends rs H Q x env' H'/\At g H w env' H' a w' g')->LeavesInM (FF none) 0 P fn a.tmps (λe w'=>∃ v r H' g',e=.returned v/\Q r H'/\Step H.length g w g' w'/\H.length<=H'.length/\Inv g' H' w'/\RV g' r v) a.defers .returning w':=by
  rintro x ⟨env0,H',g0',⟨_,env',H'',hwk,r,hr1,hq⟩,hA0⟩
  obtain⟨g',hA⟩:=hwk _ _ _ _ _ hI hA0
  obtain⟨bs,d1,d2,d3⟩:=hA.defers
  rw[d2]
  refine leave_marks bs w' d1 d3 hA.inv hA.step λw2 hI2 hS2=>?_
  obtain⟨v,hv1,hv2⟩:=res_sound (P:=P) hI2 hA.env hr hr1
  refine⟨v,hv1,?_⟩
  rcases hq with hq|⟨m,H3,r2,hm,hL,hsub,hq⟩
  ·exact⟨v,r,H'',g',rfl,hq,hS2,hA.len,hI2,hv2⟩
  ·obtain⟨h1,h2⟩:=cut_inv hI hS2 hI2 hm hL
   exact⟨v,_,H3,_,rfl,hq,h2,by rw[hL.1];exact hm,h1,hsub _ _ (hv2.strip m)⟩
 cases e with
 |normal=>exact fin .normal hl
 |ret=>exact fin .ret hl
 |exit id=>
  obtain⟨env',H',g',⟨hx,_⟩,_⟩:=hl
  rcases hx with hx|hx<;>cases hx
 |goto l=>exact hl.elim
 |panic ch=>exact hl.elim
 |outgrown=>exact hl.elim
theorem ACall.of_body {f:FuncId} {fn:Func} {c:Code} {ac:AC} {rs:List RP} {args:List PV} {H:List Blk} {Q:PV->List Blk->Prop} (hmix:P.follows .mixedOrders=true) (hf:P.funcs[f]?=some fn) (hname:fn.name≠ "runtime.NumGoroutine") (hb:fn.body=some c) (hc:comp P c=some ac) (hr:compRes P fn=some rs)
  (h:AX P H ac (args++List.replicate (fn.ntmps-args.length) (.tup [])) H (Ends rs H Q)):ACall P f args H Q:=
 ACall.of_bodyW hmix hf hname hb hc hr (.refl _ _ _) h
def isReady (H:List Blk) (k:Nat):Bool:=
 match H[k]? with
 |some (.loop _ _ _ _ _ _ .ready none)=>true
 |_=>false
def Yj:Ex->Option Code
 |.normal=>none
 |.ret=>some .ret
 |.exit id=>some (.exit id)
theorem ARound.of_body {k:Nat} {args:List PV} {H:List Blk} {Q:PV->List Blk->Prop} {env:List PV} {ps:Array Nat} {ai bd:AC} {cA cB:Code} (hmix:P.follows .mixedOrders=true)
  (hk:H[k]?=some (.loop env ps ai bd cA cB .ready none)) (hcA:comp P cA=some ai) (hcB:comp P cB=some bd) (fa:ai.flat=true) (fb:bd.flat=true) (hlen:args.length=ps.size)
  (h:AX P H ai (Zu env ps.toList args) H λx env1 H1=>x=.normal/\isReady H1 k=true/\∃ H2,setLoop H1 k .busy none=some H2/\
   AX P H bd env1 H2 λx env2 H3=>∃ H4,setLoop H3 k (if (Yj x).isNone then .ready else .done) (Yj x)=some H4/\Q (.sc (.bool (Yj x).isNone)) H4):ARound P k args H Q:=by
 intro g w vs l hI hargs hl
 obtain⟨r,h1,h2,h3,h4,h5,h6,h7,_⟩:=Uu hI hk hl
 refine⟨r,h1,by rw[h2,<-hargs.1,hlen],?_⟩
 rw[h3,h4]
 have hE:LR g (Zu env ps.toList args) ((r.params.zip vs).foldl (λtmps (t,a)=>tmps.setIfInBounds t a) r.tmps):=by
  have:=putArgs_LR ps.toList args vs.toList env r.tmps h7 (by simpa using hargs)
  rw[h2]
  rw[<-Array.foldl_toList,Array.toList_zip]
  exact this
 refine roundIn_of_wpIn (F:=FF none) trivial ?_
 have hw:=AX_sound (P:=P) (ro:=some l) (nn:=0) hmix hI cA ai hcA (.inr fa) (g:=g) (H:=H) (env:=Zu env ps.toList args) (a:={ tmps:=(r.params.zip vs).foldl (λtmps (t,a)=>tmps.setIfInBounds t a) r.tmps,defers:=[] }) (w:=w) ⟨.refl _ _ _,hI,hE,.nil _ _ _,Nat.le_refl _⟩ h
 refine Vu (ro:=some l) (λe a1 w1 hl1=>?_) hw
 have ends:∀ (x:Ex) (a3:Act) (w3:World),(∃ env2 H3 g3,(∃ H4,setLoop H3 k (if (Yj x).isNone then .ready else .done) (Yj x)=some H4/\Q (.sc (.bool (Yj x).isNone)) H4)/\At g H w env2 H3 a3 w3 g3)->
   ∃ v w',(Instr.endRound l (Yj x)).run P w3=.ok v w'/\∃ v' r H' g',Ending.returned v=.returned v'/\Q r H'/\Step H.length g w g' w'/\H.length<=H'.length/\Inv g' H' w'/\RV g' r v':=by
  rintro x a3 w3 ⟨env2,H3,g3,⟨H4,hset,hq⟩,hA3⟩
  unfold setLoop at hset
  split at hset
  case h_2=>cases hset
  rename_i e p a b c d st pe hk3
  cases hset
  obtain⟨r3,q1,q2,q3,q4,q5,q6,q7,q8⟩:=Uu hA3.inv hk3 (hA3.step.le.B _ _ hl)
  obtain⟨i4,s4⟩:=q8 (if (Yj x).isNone then .ready else .done) (Yj x)
  exact⟨_,_,run_endRound (Yj x) q1,_,_,_,g3,rfl,hq,hA3.step.trans (s4 H.length) (Nat.le_refl _),by simpa using hA3.len,i4,.sc rfl⟩
 cases e with
 |normal=>
  obtain⟨env1,H1,g1,⟨_,hrd,H2,hset,hb⟩,hA1⟩:=hl1
  unfold isReady at hrd
  split at hrd
  case h_2=>cases hrd
  rename_i e p a b c d hk1
  simp only[setLoop,hk1,Option.some.injEq]at hset
  subst hset
  obtain⟨r1,q1,q2,q3,q4,q5,q6,q7,q8⟩:=Uu hA1.inv hk1 (hA1.step.le.B _ _ hl)
  obtain⟨i2,s2⟩:=q8 .busy none
  have hbr:=run_beginRound (P:=P) q1 q5
  have e6:({ r1 with state:=LoopState.busy }:Loop)={ r1 with state:=.busy,pending:=none }:=by rw[<-q6]
  rw[e6]at hbr
  refine⟨_,hbr,?_⟩
  have hA2:At g H w env1 (H1.set k (.loop e p a b c d .busy none)) a1 (w1.putObj l (.loop { r1 with state:=.busy,pending:=none })) g1:=
   ⟨hA1.step.trans (s2 H.length) (Nat.le_refl _),i2,hA1.env,hA1.defers.step (s2 0),by simpa using hA1.len⟩
  refine Vu (ro:=some l) (λe a3 w3 hl3=>?_) (AX_sound (P:=P) (ro:=some l) (nn:=0) hmix hI cB bd hcB (.inr fb) hA2 hb)
  cases e with
  |normal=>exact ends .normal a3 w3 hl3
  |ret=>exact ends .ret a3 w3 hl3
  |exit id=>exact ends (.exit id) a3 w3 hl3
  |goto l=>exact hl3.elim
  |panic ch=>exact hl3.elim
  |outgrown=>exact hl3.elim
 |ret=>obtain⟨_,_,_,⟨hx,_⟩,_⟩:=hl1;cases hx
 |exit id=>obtain⟨_,_,_,⟨hx,_⟩,_⟩:=hl1;cases hx
 |goto l=>exact hl1.elim
 |panic ch=>exact hl1.elim
 |outgrown=>exact hl1.elim
end
end Go.PE
