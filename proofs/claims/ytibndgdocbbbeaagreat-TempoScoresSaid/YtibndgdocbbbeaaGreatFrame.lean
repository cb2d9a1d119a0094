/- A part of the proof. -/
import Derived.WalkKit
import Derived.ProofKit
import Derived.OpenShut
import Derived.Below
import Derived.Carry
import Derived.ChangeSame
import Derived.SizedLaws
set_option linter.all false
namespace Go.Proofs.YtibndgdocbbbeaaGreat
open Go.ChangeShapes Go.WideShapes Go.ChangeAt Go.RowKit
section
variable {H:Type} {enc:TypeId×Value->H} {P:Program}
theorem trodAll_stays (hl:laidOutB P=true) {W W':World} (hb:Below W.heap.size W W') {sp:Nat->Bool}:
  ∀ {ts:List TypeId} {vs:List Value} {ds:List (DataW H)} {ps:List MemPlace},(∀ t∈ts,P.readableRec t=true/\t<P.types.size)->
   DataW.TrodAll enc P W 0 (λ_=>true) true ts vs ds ps->(∀ p∈ps,p.block<W.heap.size)->(∀ p∈ps,sp p.block=true)->DataW.TrodAll enc P W' 0 sp true ts vs ds ps
 |[],[],[],_,_,h,_,_=>h
 |t::ts,v::vs,d::ds,ps,hr,h,hlt,hsp=>by
  obtain⟨p,q,hp,hq,rfl⟩:=h
  refine⟨p,q,WideElems.Trod_stays hl (hr t (by simp)).1 (hr t (by simp)).2 hp (λx hx=>hb.same (hlt x (by simp[hx]))) (λx hx=>hsp x (by simp[hx])),?_,rfl⟩
  exact trodAll_stays hl hb (λt ht=>hr t (by simp[ht])) hq (λp hp=>hlt p (by simp[hp])) (λp hp=>hsp p (by simp[hp]))
 |[],[],_::_,_,_,h,_,_=>h.elim
 |[],_::_,_,_,_,h,_,_=>by cases ‹List (DataW H)›<;>exact h.elim
 |_::_,[],_,_,_,h,_,_=>by cases ‹List (DataW H)›<;>exact h.elim
 |_::_,_::_,[],_,_,h,_,_=>h.elim
theorem post_of_below {f:Func} {s:ChangeSpec} {apart fresh handsOn again:Bool} {W W':World} {args:Array Value} {v:Value} {ds gs:List (DataW H)} {before pa pv:List MemPlace}
  (hW:DataW.Whole enc P f.params.toList s.vars apart W args.toList ds gs before)
  (hres:∀ (b:Nat) (sp:Nat->Bool) (hd:Bool),DataW.TrodAll enc P W' b sp hd f.resultTypes.toList (v.resultList f.resultTypes.size) (s.fn H (ds++gs)).results [])
  (hargs:∀ sp:Nat->Bool,(∀ p∈before,sp p.block=true)->DataW.TrodAll enc P W' 0 sp true f.params.toList args.toList (s.fn H (ds++gs)).args pa)
  (hvars:∀ sp:Nat->Bool,(∀ p∈before,sp p.block=true)->DataW.TrodVars enc P W' sp s.vars (s.fn H (ds++gs)).vars pv)
  (hps:before=pa++pv) (hb:Below W.heap.size W W')
  (hok:∀ (j:Nat) (t:TypeId) (r:Value),f.resultTypes[j]?=some t->(v.resultList f.resultTypes.size)[j]?=some r->Value.okWide P W' .any 0 t r):
  s.post enc P f apart fresh handsOn again W args v W':=by
 have hlt:∀ p∈before,p.block<W.heap.size:=λp hp=>hW.lt p hp
 have hold:∀ p∈before,(λb=>decide (b<W.heap.size)) p.block=true:=λp hp=>by simpa using hlt p hp
 refine⟨ds,gs,before,[],pa,pv,hW,hres _ _ _,hargs _ hold,hvars _ hold,World.keptBut_mono (λp hp=>⟨hp,?_⟩) (hb.frame (·∈before)),λ_=>?_⟩
 ·rw[hps,List.mem_append]at hp
  exact Or.inr hp
 ·obtain⟨_,_,_,_,_,hz,hn⟩:=hW
  refine⟨hok,_,_,([]++pa)++pv,⟨[]++pa,pv,trodAll_append (hargs _ (λ_ _=>rfl)) (hres _ _ _),hvars _ (λ_ _=>rfl),rfl,?_,?_⟩,?_⟩
  ·intro b off hp
   have hin:MemPlace.cell b off∈before:=by rw[hps];simpa using hp
   rw[hb.frozen (hlt _ hin)]
   exact hz b off hin
  ·intro ha
   have:=hn ha
   rw[hps]at this
   simpa using this
  ·intro p hp _
   rw[hps]
   simpa using hp
theorem lifted_law {C:Checked} {os:Os} {f:FuncId} {fn:Func} {s:ChangeSpec} {tb:TypeId}
  (own:ownKnob C.prog.godebug=none) (started:os.Started) (noInit:C.prog.inits.idxOf? f=none) (hfn:C.prog.funcs[f]?=some fn)
  (witness:∃ (w:World) (tape:Tape) (i:Input),w.os=os/\(w.forCall tape i).Shaped C.prog/\i.vars=[]/\Input.okWide C.prog (w.forCall tape i) .any w.heap.size f i/\
   s.pre6 enc C.prog fn [] false (w.forCall tape i).memory i.args/\({}:Assume).holds C.prog (lone (Frame.enter C.prog f i.args .normal) [] (w.forCall tape i)))
  (hv:s.vars=[]) (hspec:∀ ds:List (DataW H),ds.length=fn.params.size->s.fn H ds={ results:=[.lit (.bool true)],args:=ds })
  (hrt:fn.resultTypes=#[tb]) (hbool:C.prog.underlying tb=some .bool) (hl:laidOutB C.prog=true)
  (hr:∀ t∈fn.params.toList,C.prog.readableRec t=true/\t<C.prog.types.size)
  (walk:∀ (W:World) (base:Nat) (args:Array Value) (ds:List (DataW H)) (ps:List MemPlace),
   (∀ (j:Nat) t v,fn.params[j]?=some t->args[j]?=some v->Value.okWide C.prog W .any base t v)->
   DataW.TrodAll enc C.prog W 0 (λ_=>true) true fn.params.toList args.toList ds ps->(∀ p∈ps,p.block<W.heap.size)->(∀ n∈DataW.weightsEach C.prog fn.params.toList ds,n<=reachBytes)->
   Calls C.prog f args W λe W'=>e=.returned (.bool true)/\Below W.heap.size W W'):
  ReturnsInHanded {} C os f .any (s.pre6 enc C.prog fn [] false) (s.post enc C.prog fn false true false false):=by
 refine returnsInHanded_of_change_sized own started noInit hfn witness ?_
 intro W base args ds gs before hval hW _ hz _
 have hW':=hW
 have hlt:∀ p∈before,p.block<W.heap.size:=λp hp=>hW'.lt p hp
 obtain⟨p,q,hA,hV,rfl,hfz,hnd⟩:=hW
 rw[hv]at hV
 obtain⟨rfl,rfl⟩:=trodVars_none hV
 simp only[List.append_nil]at hW' hlt
 have hlen:∀ {ts:List TypeId} {vs:List Value} {es:List (DataW H)} {qs:List MemPlace},DataW.TrodAll enc C.prog W 0 (λ_=>true) true ts vs es qs->es.length=ts.length:=by
  intro ts
  induction ts with
  |nil=>intro vs es qs h;cases vs<;>cases es<;>simp[DataW.TrodAll]at h ⊢
  |cons t ts ih=>
   intro vs es qs h
   cases vs<;>cases es<;>simp only[DataW.TrodAll]at h
   obtain⟨_,_,_,h2,_⟩:=h
   simp[ih h2]
 have hvt:s.plain.varTypes C.prog=[]:=by
  have h:s.plain.vars=[]:=hv
  unfold DataSpec.varTypes
  rw[h]
  rfl
 rw[hvt,List.append_nil,List.append_nil]at hz
 have hz:∀ n∈DataW.weightsEach C.prog fn.params.toList ds,n<=reachBytes:=λn hn=>by simpa using List.all_eq_true.1 hz n hn
 refine(walk W base args ds p hval hA hlt hz).mono λe W' ⟨he,hb⟩=>⟨_,he,?_⟩
 have hs:s.fn H (ds++[])={ results:=[.lit (.bool true)],args:=ds }:=by rw[List.append_nil];exact hspec ds (by simpa using hlen hA)
 refine post_of_below (pa:=p) (pv:=[]) hW' ?_ ?_ ?_ (by simp) hb ?_
 ·intro b sp hd
  rw[hs,hrt]
  exact trodAll_cons_mk (shut_bool hbool _) trodAll_mk0
 ·intro sp hsp
  rw[hs]
  exact trodAll_stays hl hb hr hA hlt hsp
 ·intro sp _
  rw[hs,hv]
  rfl
 ·exact ok_one hrt rfl (okWide_bool_mk hbool _)
end
section
variable {P:Program} {w:World} {r:Reach} {base:Nat} {t ti:TypeId}
theorem ints_of_cells (hu:P.underlying ti=some (.int .i64)):∀ (cs:List Value),(∀ v∈cs,Cell.okWide P w r base ti v)->∃ xs:List Int,xs.length=cs.length/\cs=xs.map (Value.int .i64)/\∀ x∈xs,IntKind.i64.has x
 |[],_=>⟨[],rfl,rfl,by simp⟩
 |v::cs,h=>by
  obtain⟨xs,h1,h2,h3⟩:=ints_of_cells hu cs λu hu=>h u (by simp[hu])
  have hv:=h v (by simp)
  obtain⟨n,rfl,hn⟩:∃ n,v=.int .i64 n/\IntKind.i64.has n:=by
   simp only[Cell.okWide,hu]at hv
   cases v<;>simp_all [Cell.ok]
  exact⟨n::xs,by simp[h1],by simp[h2],by simpa using⟨hn,h3⟩⟩
theorem open_flat {n:Nat} {u:TypeDesc} (hk:P.underlying t=some u) (hs:(match u with|.struct _|.array _ _=>true|_=>false)=true) (hts:P.cellTypes P.depth t=some (List.replicate n ti)) (hn:0<n) (hC:P.cellsOf t=n)
  (hu:P.underlying ti=some (.int .i64)) {v:Value} (hv:Value.okWide P w r base t v):
  ∃ xs:List Int,xs.length=n/\v=.agg (xs.map (Value.int .i64)).toArray/\∀ x∈xs,IntKind.i64.has x:=by
 have hv:∃ cs,v=.agg cs/\cs.size=P.cellsOf t/\Row.okWide P w r base t cs:=by
  unfold Value.okWide at hv
  rw[hk]at hv
  cases u<;>simp at hs<;>exact hv
 obtain⟨⟨cs⟩,rfl,hsz,ts,e1,_,hc⟩:=hv
 rw[hts]at e1
 injection e1 with e1
 subst e1
 obtain⟨xs,h1,h2,h3⟩:=ints_of_cells (w:=w) (r:=r) (base:=base) hu cs (by
  intro v hv
  obtain⟨i,hi⟩:=List.getElem?_of_mem hv
  obtain⟨u,hu1,hu2⟩:=hc i v (by simpa using hi)
  have hm:i%n<n:=Nat.mod_lt _ hn
  simp[hm]at hu1
  rw[hu1]
  exact hu2)
 refine⟨xs,?_,by rw[h2],h3⟩
 simp at hsz
 omega
end
end Go.Proofs.YtibndgdocbbbeaaGreat
