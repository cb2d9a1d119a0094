/- A part of the proof. -/
import Derived.Handy
set_option linter.all false
namespace Go.PE
open Go.RowKit
inductive Right where
 |no
 |full
 |own (j:Nat)
 deriving DecidableEq,Repr,Inhabited
inductive PV where
 |any
 |sc (v:Value)
 |agg (cs:List PV)
 |tup (vs:List PV)
 |sl (nl:Bool) (r:Right) (s:Nat) (es:List (List PV))
 |ip (cs:List PV)
 |bp (k off:Nat)
 |fn (f:Fn) (first cap:List PV)
 |mp (k:Nat)
 |bs (k off n s:Nat) (full:Bool)
 |yl (k:Nat)
 |ts (j n s:Nat)
 |tp (j n off:Nat)
 deriving Inhabited
inductive Knd where
 |i|s|b
 deriving DecidableEq,Repr,Inhabited
inductive Srt where
 |sl|pt|fn|mp
 deriving DecidableEq,Repr,Inhabited
inductive Opd where
 |t (n:Nat)
 |c (p:PV)
 deriving Inhabited
inductive AOp where
 |move (x:Opd)
 |pick (c a b:Opd)
 |alloc (z:List PV)
 |box (x:Opd)
 |build (z:List PV) (parts:List ((Nat×Nat)×Opd))
 |buildSl (size:Nat) (parts:List Opd)
 |buildM (size:Nat) (parts:List Opd)
 |load (ag:Option Nat) (x:Opd)
 |store (n:Nat) (a v:Opd)
 |faddr (off:Nat) (x:Opd)
 |field (off:Nat) (ag:Option Nat) (x:Opd)
 |iaddrS (size:Nat) (x i:Opd)
 |iaddrA (size len:Nat) (x i:Opd)
 |idxA (size len:Nat) (ag:Option Nat) (x i:Opd)
 |idxStr (x i:Opd)
 |slStr (x:Opd) (lo hi:Option Opd)
 |slSl (size:Nat) (x:Opd) (lo hi mx:Option Opd)
 |bin (op:BinOp) (x y:Opd)
 |eqB (neg:Bool) (x y:Opd)
 |eqC (ks:List Knd) (neg:Bool) (x y:Opd)
 |eqN (k:Srt) (neg:Bool) (x y:Opd)
 |un (op:UnOp) (x:Opd)
 |convI (k:IntKind) (x:Opd)
 |convS (x:Opd)
 |strBytes (x:Opd)
 |bytesStr (x:Opd)
 |mkSl (size bytes:Nat) (z:List PV) (l c:Opd)
 |extract (i:Nat) (x:Opd)
 |mkFn (f:Fn) (first cap:List Opd)
 |nilCheck (x:Opd)
 |mkMap
 |rangeM (x:Opd)
 |nextM (x:Opd)
 |entryM (x:Opd)
 |lookup (ks:List Knd) (st:Bool) (zero:PV) (m k:Opd) (ok:Bool)
 |mapUp (ks:List Knd) (st:Bool) (m k v:Opd)
 |len (x:Opd)
 |lenStr (x:Opd)
 |append (size bytes:Nat) (s x:Opd)
 |appendM (size bytes:Nat) (s x:Opd)
 |mm (isMax:Bool) (xs:List Opd)
 |call (f:Opd) (args:List Opd)
 |bad
 deriving Inhabited
structure AI where
 dst:Option Nat
 guard:Option (Nat×Bool)
 op:AOp
 deriving Inhabited
structure DI where
 ord:Bool
 looks:List Nat
 free:List Nat
 ai:AI
 deriving Inhabited
inductive AC where
 |skip
 |ops (l:List AI)
 |draw (head:List DI) (tail:List AI)
 |seq (a b:AC)
 |cond (c:Opd) (a b:AC)
 |block (id:Nat) (c:AC)
 |loop (c:AC)
 |range (f:Opd) (ps:Array Nat) (ai bd:AC) (cA cB:Code)
 |exit (id:Nat)
 |ret
 |bad
 deriving Inhabited
inductive Blk where
 |cells (cs:List PV)
 |map (ks:List (Value×Nat)) (vals:List PV) (clock:Nat)
 |iter (m since:Nat) (seen:List Nat) (last:Nat)
 |grow (n size:Nat)
 |tgrow (n size:Nat) (cs:List PV)
 |loop (env:List PV) (ps:Array Nat) (ai bd:AC) (cA cB:Code) (st:LoopState) (pend:Option Code)
 deriving Inhabited
def plainV:Value->Bool
 |.bool _|.int _ _|.float _ _|.complex _ _ _|.string _|.pointer none|.nilFunc|.nilIface|.map none=>true
 |_=>false
def scL (cs:List PV):Bool:=cs.all λp=>match p with|.sc v=>plainV v|_=>false
structure Gh where
 C:Nat->Nat->Option Value
 T:Nat->Nat->Option (Nat×Nat)
 B:Nat->Option Nat
 O:Nat->Option Nat
structure Gh.le (g g':Gh):Prop where
 C:∀ b o v,g.C b o=some v->g'.C b o=some v
 T:∀ j n x,g.T j n=some x->g'.T j n=some x
 B:∀ k b,g.B k=some b->g'.B k=some b
 O:∀ b k,g.O b=some k->g'.O b=some k
theorem Gh.le.refl (g:Gh):g.le g:=⟨λ_ _ _ h=>h,λ_ _ _ h=>h,λ_ _ h=>h,λ_ _ h=>h⟩
theorem Gh.le.trans {a b c:Gh} (h:a.le b) (k:b.le c):a.le c:=
 ⟨λ_ _ _ x=>k.C _ _ _ (h.C _ _ _ x),λ_ _ _ x=>k.T _ _ _ (h.T _ _ _ x),λ_ _ x=>k.B _ _ (h.B _ _ x),λ_ _ x=>k.O _ _ (h.O _ _ x)⟩
def Right.isOwn:Right->Bool
 |.own _=>true
 |_=>false
def rightOk (g:Gh) (r:Right) (b o n cap:Nat):Prop:=
 match r with
 |.no=>True
 |.full=>cap=n
 |.own j=>(cap=n/\∃ x,g.T j 0=some x)\/(o=0/\g.T j n=some (b,cap))
inductive RV (g:Gh):PV->Value->Prop
 |any (v:Value):RV g .any v
 |sc {v:Value} (h:plainV v=true):RV g (.sc v) v
 |agg {cs:List PV} {vs:Array Value} (hn:cs.length=vs.size) (h:∀ (i:Nat) (p:PV) (v:Value),cs[i]?=some p->vs[i]?=some v->RV g p v):RV g (.agg cs) (.agg vs)
 |tup {cs:List PV} {vs:Array Value} (hn:cs.length=vs.size) (h:∀ (i:Nat) (p:PV) (v:Value),cs[i]?=some p->vs[i]?=some v->RV g p v):RV g (.tup cs) (.tuple vs)
 |nilsl (r:Right) (s:Nat):RV g (.sl true r s []) (.slice none 0 0)
 |sl {r:Right} {es:List (List PV)} {b o cap s:Nat} (vf:Nat->Nat->Value) (hc:es.length<=cap) (hm:cap<=maxLen)
   (hs:∀ (i:Nat) (e:List PV),es[i]?=some e->e.length=s)
   (hC:∀ (i j:Nat) (e:List PV) (p:PV),es[i]?=some e->e[j]?=some p->g.C b (o+i*s+j)=some (vf i j))
   (hR:∀ (i j:Nat) (e:List PV) (p:PV),es[i]?=some e->e[j]?=some p->RV g p (vf i j))
   (hr:rightOk g r b o es.length cap):RV g (.sl false r s es) (.slice (some ⟨b,o,none⟩) es.length cap)
 |em (r:Right) (s:Nat) (A:Addr) (hr:r.isOwn=false):RV g (.sl false r s []) (.slice (some A) 0 0)
 |ip {cs:List PV} {b o:Nat} (vf:Nat->Value) (hC:∀ (j:Nat) (p:PV),cs[j]?=some p->g.C b (o+j)=some (vf j))
   (hR:∀ (j:Nat) (p:PV),cs[j]?=some p->RV g p (vf j)):RV g (.ip cs) (.pointer (some ⟨b,o,none⟩))
 |bp {k off b:Nat} (h:g.B k=some b):RV g (.bp k off) (.pointer (some ⟨b,off,none⟩))
 |fn {f:Fn} {p q:List PV} {first cap:Array Value} (hn:p.length=first.size) (hm:q.length=cap.size)
   (h:∀ (i:Nat) (x:PV) (v:Value),p[i]?=some x->first[i]?=some v->RV g x v)
   (k:∀ (i:Nat) (x:PV) (v:Value),q[i]?=some x->cap[i]?=some v->RV g x v):RV g (.fn f p q) (.func f first cap)
 |mp {k b:Nat} (h:g.B k=some b):RV g (.mp k) (.map (some b))
 |bs {k off n s b o cap:Nat} {full:Bool} (h:g.B k=some b) (hn:n<=cap) (hm:cap<=maxLen) (hf:full=true->cap=n) (ho:0<n->o=off):RV g (.bs k off n s full) (.slice (some ⟨b,o,none⟩) n cap)
 |yl {k b:Nat} (h:g.B k=some b):RV g (.yl k) (.func (.yield b) #[] #[])
 |tsn {j n s:Nat} (h:n=0):RV g (.ts j n s) (.slice none 0 0)
 |ts {j n s b cap:Nat} (h:g.T j n=some (b,cap)) (hp:0<n) (hn:n<=cap) (hm:cap<=maxLen):RV g (.ts j n s) (.slice (some ⟨b,0,none⟩) n cap)
 |tp {j n off b cap:Nat} (h:g.T j n=some (b,cap)):RV g (.tp j n off) (.pointer (some ⟨b,off,none⟩))
theorem rightOk.mono {g g':Gh} (hg:g.le g') {r:Right} {b o n cap:Nat} (h:rightOk g r b o n cap):rightOk g' r b o n cap:=by
 cases r with
 |no=>trivial
 |full=>exact h
 |own j=>exact h.imp (λh=>⟨h.1,h.2.imp λ_ h=>hg.T _ _ _ h⟩) λh=>⟨h.1,hg.T _ _ _ h.2⟩
theorem RV.mono {g g':Gh} (hg:g.le g') {p:PV} {v:Value} (h:RV g p v):RV g' p v:=by
 induction h with
 |any v=>exact .any v
 |sc h=>exact .sc h
 |agg hn _ ih=>exact .agg hn ih
 |tup hn _ ih=>exact .tup hn ih
 |nilsl r s=>exact .nilsl r s
 |em r s A h=>exact .em r s A h
 |sl vf hc hm hs hC _ hr ih=>exact .sl vf hc hm hs (λi j e p h k=>hg.C _ _ _ (hC i j e p h k)) ih (hr.mono hg)
 |ip vf hC _ ih=>exact .ip vf (λj p h=>hg.C _ _ _ (hC j p h)) ih
 |bp h=>exact .bp (hg.B _ _ h)
 |fn hn hm _ _ ih1 ih2=>exact .fn hn hm ih1 ih2
 |mp h=>exact .mp (hg.B _ _ h)
 |bs h a b c d=>exact .bs (hg.B _ _ h) a b c d
 |yl h=>exact .yl (hg.B _ _ h)
 |tsn h=>exact .tsn h
 |ts h p a b=>exact .ts (hg.T _ _ _ h) p a b
 |tp h=>exact .tp (hg.T _ _ _ h)
def LR (g:Gh) (ps:List PV) (vs:Array Value):Prop:=ps.length=vs.size/\∀ (i:Nat) (p:PV) (v:Value),ps[i]?=some p->vs[i]?=some v->RV g p v
theorem LR.mono {g g':Gh} (hg:g.le g') {ps:List PV} {vs:Array Value} (h:LR g ps vs):LR g' ps vs:=⟨h.1,λi p v a b=>(h.2 i p v a b).mono hg⟩
def LP (g:Gh) (ps:List PV) (vs:Array Value):Prop:=ps.length<=vs.size/\∀ (i:Nat) (p:PV) (v:Value),ps[i]?=some p->vs[i]?=some v->RV g p v
theorem LP.mono {g g':Gh} (hg:g.le g') {ps:List PV} {vs:Array Value} (h:LP g ps vs):LP g' ps vs:=⟨h.1,λi p v a b=>(h.2 i p v a b).mono hg⟩
theorem LR.lp {g:Gh} {ps:List PV} {vs:Array Value} (h:LR g ps vs):LP g ps vs:=⟨by rw[h.1];exact Nat.le_refl _,h.2⟩
def BOk (g:Gh) (w:World) (k:Nat):Blk->Prop
 |.cells cs=>g.B k=none\/∃ (b:Nat) (vs:Array Value) (e:TypeId),g.B k=some b/\w.heap[b]?=some (.cells vs e (0,0))/\LP g cs vs/\∀ o,g.C b o=none
 |.map ks vals clock=>g.B k=none\/∃ (b:Nat) (es:Array MapEntry),g.B k=some b/\w.heap[b]?=some (.map es clock)/\es.toList.map (λe=>(e.key,e.born))=ks/\LR g vals (es.map (·.val))
 |.iter m since seen last=>g.B k=none\/∃ b bm:Nat,g.B k=some b/\m<k/\g.B m=some bm/\w.heap[b]?=some (.mapIter (some bm) since seen.toArray last)
 |.grow n size=>(∀ n',n<n'->g.T k n'=none)/\∀ b cap,g.T k n=some (b,cap)->g.O b=some k/\(∃ (vs:Array Value) (e:TypeId),w.heap[b]?=some (.cells vs e (0,0))/\vs.size=cap*size)/\n<=cap/\cap<=maxLen/\∀ o,n*size<=o->g.C b o=none
 |.tgrow n size cs=>(∀ n',n<n'->g.T k n'=none)/\cs.length=n*size/\scL cs=true/\∀ b cap,g.T k n=some (b,cap)->g.O b=some k/\(∃ (vs:Array Value) (e:TypeId),w.heap[b]?=some (.cells vs e (0,0))/\vs.size=cap*size/\LP g cs vs)/\n<=cap/\cap<=maxLen/\∀ o,g.C b o=none
 |.loop env ps _ _ cA cB st pend=>g.B k=none\/∃ (b:Nat) (r:Loop),g.B k=some b/\w.heap[b]?=some (.loop r)/\r.params=ps/\r.assign=cA/\r.body=cB/\r.state=st/\r.pending=pend/\LR g env r.tmps
structure Inv (g:Gh) (H:List Blk) (w:World):Prop where
 C:∀ b o v,g.C b o=some v->w.cell? ⟨b,o,none⟩=some v
 blk:∀ k x,H[k]?=some x->BOk g w k x
 own:∀ k b,g.B k=some b->g.O b=some k
 lt:∀ b k,g.O b=some k->b<w.heap.size
 domB:∀ k,H.length<=k->g.B k=none
 domT:∀ k n,H.length<=k->g.T k n=none
 domO:∀ b k,g.O b=some k->k<H.length
structure Step (n:Nat) (g:Gh) (w:World) (g':Gh) (w':World):Prop where
 le:g.le g'
 B:∀ k,k<n->g'.B k=g.B k
 os:w'.os=w.os
 tape:w'.tape=w.tape
 output:w'.output=w.output
 size:w.heap.size<=w'.heap.size
 block:∀ b,b<w.heap.size->g.O b=none->w'.heap[b]?=w.heap[b]?
 O:∀ b k,g'.O b=some k->g.O b=some k\/w.heap.size<=b
 C:∀ b o,g.O b=none->b<w.heap.size->g'.C b o=g.C b o
theorem Step.refl (n:Nat) (g:Gh) (w:World):Step n g w g w:=⟨.refl g,λ_ _=>rfl,rfl,rfl,rfl,Nat.le_refl _,λ_ _ _=>rfl,λ_ _ h=>.inl h,λ_ _ _ _=>rfl⟩
theorem Step.none {n:Nat} {g g':Gh} {w w':World} (h:Step n g w g' w') {b:Nat} (hb:b<w.heap.size) (ho:g.O b=none):g'.O b=none:=by
 cases e:g'.O b with
 |none=>rfl
 |some k=>
  rcases h.O b k e with h1|h1
  ·rw[ho]at h1;cases h1
  ·omega
theorem Step.trans {n n':Nat} {g g' g'':Gh} {w w' w'':World} (h:Step n g w g' w') (k:Step n' g' w' g'' w'') (hn:n<=n'):Step n g w g'' w'':=by
 refine⟨h.le.trans k.le,λi hi=>(k.B i (by omega)).trans (h.B i hi),k.os.trans h.os,k.tape.trans h.tape,k.output.trans h.output,Nat.le_trans h.size k.size,λb hb ho=>?_,λb i hi=>?_,λb o ho hb=>?_⟩
 ·rw[k.block b (Nat.lt_of_lt_of_le hb h.size) (h.none hb ho),h.block b hb ho]
 ·rcases k.O b i hi with h1|h1
  ·exact h.O b i h1
  ·exact .inr (Nat.le_trans h.size h1)
 ·rw[k.C b o (h.none hb ho) (Nat.lt_of_lt_of_le hb h.size),h.C b o ho hb]
end Go.PE
