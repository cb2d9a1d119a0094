/- A part of the proof. -/
import Derived.Test.YtibndgdocbbbeaaGreatSY8
set_option linter.all false
namespace Go.PE
open Go.RowKit
variable {P:Program}
theorem ARound.of_bodyW {k:Nat} {args:List PV} {H:List Blk} {Q:PV->List Blk->Prop} {env:List PV} {ps:Array Nat} {ai bd:AC} {cA cB:Code} (hmix:P.follows .mixedOrders=true)
  (hk:H[k]?=some (.loop env ps ai bd cA cB .ready none)) (hcA:comp P cA=some ai) (hcB:comp P cB=some bd) (fa:ai.flat=true) (fb:bd.flat=true) (hlen:args.length=ps.size)
  (h:AX P H ai (Zu env ps.toList args) H λx env0 H0'=>x=.normal/\∃ env1 H1,WeakS H env0 H0' env1 H1/\isReady H1 k=true/\∃ H2,setLoop H1 k .busy none=some H2/\
   AX P H bd env1 H2 λx env20 H30=>∃ env2 H3,WeakS H env20 H30 env2 H3/\∃ H4,setLoop H3 k (if (Yj x).isNone then .ready else .done) (Yj x)=some H4/\Q (.sc (.bool (Yj x).isNone)) H4):ARound P k args H Q:=by
 intro g w vs l hI hargs hl
 obtain⟨r,h1,h2,h3,h4,h5,h6,h7,_⟩:=Uu hI hk hl
 refine⟨r,h1,by rw[h2,<-hargs.1,hlen],?_⟩
 rw[h3,h4]
 have hE:LR g (Zu env ps.toList args) ((r.params.zip vs).foldl (λtmps (t,a)=>tmps.setIfInBounds t a) r.tmps):=by
  have:=putArgs_LR ps.toList args vs.toList env r.tmps h7 (by simpa using hargs)
  rw[h2]
  rw[<-Array.foldl_toList,Array.toList_zip]
  exact this
 refine roundIn_of_wpIn (F:=FF none) trivial ?_
 have hw:=AX_sound (P:=P) (ro:=some l) (nn:=0) hmix hI cA ai hcA (.inr fa) (g:=g) (H:=H) (env:=Zu env ps.toList args) (a:={ tmps:=(r.params.zip vs).foldl (λtmps (t,a)=>tmps.setIfInBounds t a) r.tmps,defers:=[] }) (w:=w) ⟨.refl _ _ _,hI,hE,.nil _ _ _,Nat.le_refl _⟩ h
 refine Vu (ro:=some l) (λe a1 w1 hl1=>?_) hw
 have ends:∀ (x:Ex) (a3:Act) (w3:World),(∃ env2 H3 g3,(∃ e4 H5,WeakS H env2 H3 e4 H5/\∃ H4,setLoop H5 k (if (Yj x).isNone then .ready else .done) (Yj x)=some H4/\Q (.sc (.bool (Yj x).isNone)) H4)/\At g H w env2 H3 a3 w3 g3)->
   ∃ v w',(Instr.endRound l (Yj x)).run P w3=.ok v w'/\∃ v' r H' g',Ending.returned v=.returned v'/\Q r H'/\Step H.length g w g' w'/\H.length<=H'.length/\Inv g' H' w'/\RV g' r v':=by
  rintro x a3 w3 ⟨env2,H3,g30,⟨e4,H5,hwk,H4,hset,hq⟩,hA30⟩
  obtain⟨g3,hA3⟩:=hwk _ _ _ _ _ hI hA30
  unfold setLoop at hset
  split at hset
  case h_2=>cases hset
  rename_i e p a b c d st pe hk3
  cases hset
  obtain⟨r3,q1,q2,q3,q4,q5,q6,q7,q8⟩:=Uu hA3.inv hk3 (hA3.step.le.B _ _ hl)
  obtain⟨i4,s4⟩:=q8 (if (Yj x).isNone then .ready else .done) (Yj x)
  exact⟨_,_,run_endRound (Yj x) q1,_,_,_,g3,rfl,hq,hA3.step.trans (s4 H.length) (Nat.le_refl _),by simpa using hA3.len,i4,.sc rfl⟩
 cases e with
 |normal=>
  obtain⟨env0,H0',g0',⟨_,env1,H1,hwk,hrd,H2,hset,hb⟩,hA0⟩:=hl1
  obtain⟨g1,hA1⟩:=hwk _ _ _ _ _ hI hA0
  unfold isReady at hrd
  split at hrd
  case h_2=>cases hrd
  rename_i e p a b c d hk1
  simp only[setLoop,hk1,Option.some.injEq]at hset
  subst hset
  obtain⟨r1,q1,q2,q3,q4,q5,q6,q7,q8⟩:=Uu hA1.inv hk1 (hA1.step.le.B _ _ hl)
  obtain⟨i2,s2⟩:=q8 .busy none
  have hbr:=run_beginRound (P:=P) q1 q5
  have e6:({ r1 with state:=LoopState.busy }:Loop)={ r1 with state:=.busy,pending:=none }:=by rw[<-q6]
  rw[e6]at hbr
  refine⟨_,hbr,?_⟩
  have hA2:At g H w env1 (H1.set k (.loop e p a b c d .busy none)) a1 (w1.putObj l (.loop { r1 with state:=.busy,pending:=none })) g1:=
   ⟨hA1.step.trans (s2 H.length) (Nat.le_refl _),i2,hA1.env,hA1.defers.step (s2 0),by simpa using hA1.len⟩
  refine Vu (ro:=some l) (λe a3 w3 hl3=>?_) (AX_sound (P:=P) (ro:=some l) (nn:=0) hmix hI cB bd hcB (.inr fb) hA2 hb)
  cases e with
  |normal=>exact ends .normal a3 w3 hl3
  |ret=>exact ends .ret a3 w3 hl3
  |exit id=>exact ends (.exit id) a3 w3 hl3
  |goto l=>exact hl3.elim
  |panic ch=>exact hl3.elim
  |outgrown=>exact hl3.elim
 |ret=>obtain⟨_,_,_,⟨hx,_⟩,_⟩:=hl1;cases hx
 |exit id=>obtain⟨_,_,_,⟨hx,_⟩,_⟩:=hl1;cases hx
 |goto l=>exact hl1.elim
 |panic ch=>exact hl1.elim
 |outgrown=>exact hl1.elim
def RoundEnd (k:Nat) (H:List Blk) (Q:PV->List Blk->Prop):Ex->List PV->List Blk->Prop:=λx env20 H30=>
 ∃ env2 H3,WeakS H env20 H30 env2 H3/\∃ H4,setLoop H3 k (if (Yj x).isNone then .ready else .done) (Yj x)=some H4/\Q (.sc (.bool (Yj x).isNone)) H4
theorem g_yl {k:Nat} {args:List PV} {H:List Blk} {Q:PV->List Blk->Prop} {N:Nat} {le:List (Nat×PV)} {ps:Array Nat} {ai bd:AC} {cA cB:Code} (hmix:P.follows .mixedOrders=true)
  (hcA:comp P cA=some ai) (hcB:comp P cB=some bd) (fa:ai.flat=true) (fb:bd.flat=true) (le2:List (Nat×PV)) (ws:List (Wb P)) (le3:List (Nat×PV)) (H1 H2:List Blk)
  (hb:GX P H bd (mk N le3) H2 (RoundEnd k H Q))
  (hk:H[k]?=some (.loop (mk N le) ps ai bd cA cB .ready none):=by kernel_rfl) (hlen:args.length=ps.size:=by rfl)
  (he:Zu (mk N le) ps.toList args=mk N le2:=by kernel_rfl) (hE:runW ai N le2 H (ws.map Wb.raw) le3=some (.normal,vals le3,H1,ws.map Wb.raw):=by kernel_rfl)
  (hr:isReady H1 k=true:=by kernel_rfl) (hs:setLoop H1 k .busy none=some H2:=by kernel_rfl):ARound P k args H Q:=by
 refine ARound.of_bodyW hmix hk hcA hcB fa fb hlen ?_
 rw[he]
 exact(Yp (P:=P) (H0:=H) (Q:=λx env0 H0'=>x=.normal/\∃ env1 H1,WeakS H env0 H0' env1 H1/\isReady H1 k=true/\∃ H2,setLoop H1 k .busy none=some H2/\
   AX P H bd env1 H2 (RoundEnd k H Q)) ws .normal le3 H1 (λe hw=>⟨rfl,_,_,hw,hr,H2,hs,hb.ax⟩) hE).ax
theorem round_end {k:Nat} {H:List Blk} {x:Ex} {r:PV} {env2 e4:List PV} {H3 H4 H5:List Blk} (hw:WeakS H env2 H3 e4 H5) (hs:setLoop H5 k (if (Yj x).isNone then .ready else .done) (Yj x)=some H4:=by kernel_rfl) (hr:.sc (.bool (Yj x).isNone)=r:=by kernel_rfl):
  RoundEnd k H (λq h=>q=r/\h=H4) x env2 H3:=⟨_,_,hw,_,hs,hr,rfl⟩
def rangeEnd (H1:List Blk) (k:Nat):Option (Ex×List Blk):=match H1[k]? with
 |some (.loop _ _ _ _ _ _ st pend)=>match st with
  |.busy=>none
  |_=>match jumpEx pend with
   |some x=>(setLoop H1 k .exhausted pend).map λh=>(x,h)
   |none=>none
 |_=>none
theorem g_range {H0:List Blk} {c:AC} {f:Opd} {ps:Array Nat} {ai bd:AC} {cA cB:Code} {N:Nat} {le:List (Nat×PV)} {H:List Blk} {Q:Ex->List PV->List Blk->Prop} {n:FuncId} {r:PV} {H1:List Blk}
  (first cap:List PV) (x:Ex) (H2:List Blk) (h:ACall P n (first++[.yl H.length]++cap) (H++[.loop (mk N le) ps ai bd cA cB .ready none]) (λq h=>q=r/\h=H1))
  (hq:Q x (mk N le) H2) (hf:f.ev (mk N le)=.fn (.func n) first cap:=by kernel_rfl) (hx:rangeEnd H1 H.length=some (x,H2):=by kernel_rfl) (hc:c=.range f ps ai bd cA cB:=by rfl):GX P H0 c (mk N le) H Q:=⟨by
 subst hc
 simp only[AX,hf]
 refine ACall.mono h ?_
 rintro q h' ⟨rfl,rfl⟩
 unfold rangeEnd at hx
 split at hx
 ·rename_i st pend hk
  rw[hk]
  simp only
  split at hx
  ·cases hx
  ·rename_i hst
   refine⟨λe=>hst e,?_⟩
   split at hx
   ·rename_i x' hj
    cases hs:setLoop h' H.length .exhausted pend with
    |none=>rw[hs]at hx;cases hx
    |some h2=>
     rw[hs]at hx
     simp only[Option.map_some,Option.some.injEq,Prod.mk.injEq]at hx
     obtain⟨rfl,rfl⟩:=hx
     exact⟨_,_,hj,rfl,hq⟩
   ·cases hx
 ·cases hx⟩
theorem acall_b {f:FuncId} {args:List PV} {H:List Blk} {r:PV} {H1:Bool->List Blk} {d e:Bool} (hd:d=e) (h:ACall P f args H λq h=>q=r/\h=H1 d):ACall P f args H λq h=>q=r/\h=H1 e:=hd▸h
theorem n_yl {k:Nat} {args:List PV} {F:List Blk} {Hh:Bool->List Blk} {d e:Bool} (hd:d=e) (h:ARound P k args F λq h=>q=bP (!d)/\h=Hh d) (hl:Nat.ble F.length (Hh e).length=true:=by kernel_rfl):
  Nt.ok P (.st (.call (.c (.yl k)) (args.map .c)) F (bP (!e)) (Hh e) 0):=by
 subst hd
 refine⟨?_,Nat.le_of_ble_eq_true hl,λk hk=>by omega⟩
 have e:(args.map Opd.c).map (λx=>x.ev [])=args:=by rw[List.map_map];exact List.map_id _
 show ARound P k ((args.map Opd.c).map (λx=>x.ev [])) F _
 rw[e]
 exact h
theorem Yo {l:List PV} (n:Nat):PSub (.ip l) (.ip (l.take n)):=λg v hv=>by
 cases hv with
 |ip vf hC hR=>
  refine .ip vf (λj p hp=>hC j p ?_) λj p hp=>hR j p ?_
  all_goals
   rw[List.getElem?_take]at hp
   split at hp
   ·exact hp
   ·cases hp
theorem Ye {k:Nat} {ps qs:List PV} {H:List Blk} {Q:PV->List Blk->Prop} (h:ARound P k qs H Q) (hs:PSubL ps qs):ARound P k ps H Q:=by
 intro g w vs l hI hL hB
 refine h g w vs l hI ?_ hB
 obtain⟨h1,h2⟩:=hs.lr (g:=g)
 refine⟨h1▸hL.1,λi q v hq hv=>?_⟩
 obtain⟨p,hp,hpq⟩:=h2 i q hq
 exact hpq _ _ (hL.2 i p v hp hv)
theorem Vh {size len b o:Nat} {kk:IntKind} {i:Int} (k:Nat) (h:(i==(k:Int))=true) (hk:Nat.blt k len=true):Nt.ok P (.pu (.iaddrA size len (.c (.bp b o)) (.c (.sc (.int kk i)))) (.bp b (o+k*size))):=by
 have e:i=(k:Int):=by simpa using h
 have hk:k<len:=Nat.le_of_ble_eq_true hk
 subst e
 simp only[Nt.ok,aop,Opd.ev,PV.asI]
 rw[if_pos ⟨by omega,by omega⟩]
 simp
theorem eok {f:FuncId} {af:AF} {fn:Func} (hf:P.funcs[f]?=some fn) {c:Code} (hb:fn.body=some c:=by rfl) (hn:fn.name≠ "runtime.NumGoroutine":=by decide) (hc:comp P c=some af.body:=by kernel_rfl) (hr:compRes P fn=some af.res:=by kernel_rfl) (ht:af.ntmps=fn.ntmps:=by rfl):EntryOk P f af:=⟨fn,c,hf,hn,hb,hc,hr,ht⟩
def Zn:Code->List Nat->Code
 |c,[]=>c
 |.scope c,x::l=>Zn c (x::l)
 |.seq a _,0::l|.cond _ a _,0::l|.rangeFunc _ _ a _,0::l|.block _ a,_::l|.loop a,_::l=>Zn a l
 |.seq _ b,_::l|.cond _ _ b,_::l|.rangeFunc _ _ _ b,_::l=>Zn b l
 |c,_=>c
abbrev lst (d:Bool):LoopState:=bif d then .done else .ready
abbrev lpd (d:Bool) (j:Code):Option Code:=bif d then some j else none
theorem mk_strip {m N:Nat} {le:List (Nat×PV)} (h:AllS m le):(mk N le).map (PV.strip m)=mk N le:=by
 have key:∀ n i,(Wy le i n).map (PV.strip m)=Wy le i n:=by
  intro n
  induction n with
  |zero=>intro i;rfl
  |succ n ih=>
   intro i
   simp only[Wy,List.map_cons,ih]
   congr 1
   rcases Vv le i with h1|h1
   ·rw[h1];simp[PV.strip]
   ·exact h.mem _ h1
 exact key N 0
instance {m N:Nat} {le:List (Nat×PV)} {ps:Array Nat} {ai bd:AC} {cA cB:Code} {st:LoopState} {pend:Option Code} [h:AllSI m le]:BlkI m (.loop (mk N le) ps ai bd cA cB st pend):=⟨by simp only[Blk.strip,mk_strip h.h]⟩
instance {m k:Nat} [h:BltI k m]:StP m (.yl k):=⟨by
 have:k<m:=Nat.le_of_ble_eq_true h.h
 simp[PV.strip,this]⟩
theorem soj {α:Type} {a b:α} (h:some a=some b):a=b:=Option.some.inj h
instance {n:Nat}:OfNat Opd n:=⟨.t n⟩
abbrev re (n:Nat):Wb P:=.r (es n []) []
def runR (c:AC) (N:Nat) (le:List (Nat×PV)) (H:List Blk) (ws:List Wn) (rs:List RP) (m:Nat):Option (Ex×Option PV×List Blk×List Wn):=match runC c (mk N le) H ws with
 |some (x,e,h,[],o)=>some (x,resP rs e h,h.take m,o)
 |_=>none
theorem g_rr {H0:List Blk} {c:AC} {N:Nat} {le:List (Nat×PV)} {H:List Blk} {Q:Ex->List PV->List Blk->Prop} {rs:List RP} {r:PV} (ws:List (Wb P)) (x:Ex) (hQ:∀ e h,resP rs e h=some r->Q x e h)
  (hE:runR c N le H (ws.map Wb.raw) rs 0=some (x,some r,[],ws.map Wb.raw):=by kernel_rfl):GX P H0 c (mk N le) H Q:=⟨by
 unfold runR at hE
 split at hE
 ·rename_i hr
  simp only[Option.some.injEq,Prod.mk.injEq]at hE
  obtain⟨rfl,hv,_,ho⟩:=hE
  exact Vg c hr (ho▸wb_ok ws) (hQ _ _ hv)
 ·cases hE⟩
theorem g_rh {H0:List Blk} {c:AC} {N:Nat} {le:List (Nat×PV)} {H H3:List Blk} {Q:Ex->List PV->List Blk->Prop} {rs:List RP} {r:PV} (m:Nat) (ws:List (Wb P)) (x:Ex) (hQ:∀ e h,resP rs e h=some r->h.take m=H3->Q x e h)
  (hE:runR c N le H (ws.map Wb.raw) rs m=some (x,some r,H3,ws.map Wb.raw):=by kernel_rfl):GX P H0 c (mk N le) H Q:=⟨by
 unfold runR at hE
 split at hE
 ·rename_i hr
  simp only[Option.some.injEq,Prod.mk.injEq]at hE
  obtain⟨rfl,hv,hh,ho⟩:=hE
  exact Vg c hr (ho▸wb_ok ws) (hQ _ _ hv hh)
 ·cases hE⟩
theorem er {rs:List RP} {env:List PV} {H':List Blk} {r:PV} [ClP r] (hr:resP rs env H'=some r):Ends rs [] (λq h=>q=r/\h=[]) .ret env H':=ends_cl (.inr rfl) (WeakS.refl _ _ _) hr
theorem hn {rs:List RP} {env:List PV} {H0 H' H3:List Blk} {r:PV} {m:Nat} [ClP r] [AllBI m H3] (hr:resP rs env H'=some r) (hH:H'.take m=H3) (hm:H0.length=m:=by rfl) (hm3:H3.length=m:=by rfl):Ends rs H0 (λq h=>q=r/\h=H3) .normal env H':=ends_clH (.inl rfl) (WeakS.refl _ _ _) m hH hm hm3 hr
theorem hr {rs:List RP} {env:List PV} {H0 H' H3:List Blk} {r:PV} {m:Nat} [ClP r] [AllBI m H3] (hr:resP rs env H'=some r) (hH:H'.take m=H3) (hm:H0.length=m:=by rfl) (hm3:H3.length=m:=by rfl):Ends rs H0 (λq h=>q=r/\h=H3) .ret env H':=ends_clH (.inr rfl) (WeakS.refl _ _ _) m hH hm hm3 hr
theorem g_to {H0:List Blk} {c:AC} {N:Nat} {le le':List (Nat×PV)} {H H':List Blk} {Q:Ex->List PV->List Blk->Prop} (ws:List (Wb P)) (x:Ex) (hQ:∀ e,WeakS H0 e H' (mk N le') H'->Q x e H')
  (hE:runW c N le H (ws.map Wb.raw) le'=some (x,vals le',H',ws.map Wb.raw):=by kernel_rfl):GX P H0 c (mk N le) H Q:=Yp ws x le' H' hQ hE
def runT (m:Nat) (c:AC) (N:Nat) (le:List (Nat×PV)) (H:List Blk) (ws:List Wn) (sl:List (Nat×PV)):Option (Ex×List (Option PV)×List Blk×List Wn):=
 match runC c (mk N le) H ws with
 |some (x,e,h,[],o)=>match Nat.beq e.length N with
  |true=>some (x,sl.map λx=>e[x.1]?,h.take m,o)
  |false=>none
 |_=>none
theorem g_tc {H0:List Blk} {c:AC} {N:Nat} {le le':List (Nat×PV)} {H H':List Blk} {Q:Ex->List PV->List Blk->Prop} (m:Nat) (ws:List (Wb P)) (x:Ex) (hQ:∀ e h,WeakS H0 e h (mk N le') H'->Q x e h) [AllSI m le'] [AllBI m H']
  (hE:runT m c N le H (ws.map Wb.raw) le'=some (x,vals le',H',ws.map Wb.raw):=by kernel_rfl) (hm:H'.length=m:=by rfl) (h0:Nat.ble H0.length m=true:=by rfl):GX P H0 c (mk N le) H Q:=⟨by
 unfold runT at hE
 split at hE
 ·rename_i hr
  split at hE
  ·rename_i hb
   simp only[Option.some.injEq,Prod.mk.injEq]at hE
   obtain⟨rfl,hv,hh,ho⟩:=hE
   exact Vg c hr (ho▸wb_ok ws) (hQ _ _ ((weak_mk (Nat.eq_of_beq_eq_true hb) hv).trans (weak_cutI m hh hm h0)))
  ·cases hE
 ·cases hE⟩
end Go.PE
