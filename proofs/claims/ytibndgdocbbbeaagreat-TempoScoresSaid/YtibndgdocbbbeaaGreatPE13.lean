/- A part of the proof. -/
import Derived.Test.YtibndgdocbbbeaaGreatPE12
set_option linter.all false
namespace Go.PE
open Go.RowKit
def Right.cut (m:Nat) (nl:Bool):Right->Right
 |.own j=>if nl=true\/j<m then .own j else .no
 |r=>r
 mutual
def PV.strip (m:Nat):PV->PV
 |.any=>.any
 |.sc v=>.sc v
 |.agg cs=>.agg (PV.stripL m cs)
 |.tup cs=>.tup (PV.stripL m cs)
 |.sl nl r s es=>.sl nl (r.cut m nl) s (PV.stripLL m es)
 |.ip cs=>.ip (PV.stripL m cs)
 |.bp k o=>if k<m then .bp k o else .any
 |.fn f p q=>.fn f (PV.stripL m p) (PV.stripL m q)
 |.mp k=>if k<m then .mp k else .any
 |.bs k off n s full=>if k<m then .bs k off n s full else .any
 |.yl k=>if k<m then .yl k else .any
 |.ts j n s=>if n=0\/j<m then .ts j n s else .any
 |.tp j n off=>if j<m then .tp j n off else .any
def PV.stripL (m:Nat):List PV->List PV
 |[]=>[]
 |p::ps=>p.strip m::PV.stripL m ps
def PV.stripLL (m:Nat):List (List PV)->List (List PV)
 |[]=>[]
 |e::es=>PV.stripL m e::PV.stripLL m es
 end
theorem Xw (m:Nat):∀ l:List PV,PV.stripL m l=l.map (PV.strip m)
 |[]=>by simp[PV.stripL]
 |p::l=>by simp[PV.stripL,Xw m l]
theorem Zd (m:Nat):∀ l:List (List PV),PV.stripLL m l=l.map λe=>e.map (PV.strip m)
 |[]=>by simp[PV.stripLL]
 |p::l=>by simp[PV.stripLL,Zd m l,Xw]
def Gh.cut (g:Gh) (m:Nat):Gh where
 C:=g.C
 T:=λj n=>if j<m then g.T j n else none
 B:=λk=>if k<m then g.B k else none
 O:=λb=>(g.O b).bind λk=>if k<m then some k else none
theorem Yu {α β:Type} {f:α->β} {l:List α} {i:Nat} {y:β} (h:(l.map f)[i]?=some y):∃ x,l[i]?=some x/\f x=y:=by
 rw[List.getElem?_map]at h
 cases hx:l[i]? with
 |none=>simp[hx]at h
 |some x=>simp[hx]at h;exact⟨x,rfl,h⟩
theorem RV.strip {g:Gh} {p:PV} {v:Value} (h:RV g p v) (m:Nat):RV (g.cut m) (p.strip m) v:=by
 induction h with
 |any v=>unfold PV.strip;exact .any v
 |sc h=>unfold PV.strip;exact .sc h
 |agg hn _ ih=>
  unfold PV.strip
  rw[Xw]
  exact .agg (by simpa using hn) λi p v hp hv=>by obtain⟨q,hq,rfl⟩:=Yu hp;exact ih i q v hq hv
 |tup hn _ ih=>
  unfold PV.strip
  rw[Xw]
  exact .tup (by simpa using hn) λi p v hp hv=>by obtain⟨q,hq,rfl⟩:=Yu hp;exact ih i q v hq hv
 |nilsl r s=>unfold PV.strip;simp only[PV.stripLL];exact .nilsl _ _
 |em r s A h=>unfold PV.strip;simp only[PV.stripLL];exact .em _ _ _ (by cases r<;>first|rfl|cases h)
 |@sl r es b o cap s vf hc hm hs hC hR hr ih=>
  unfold PV.strip
  rw[Zd]
  have hl:(es.map λe=>e.map (PV.strip m)).length=es.length:=by simp
  rw[<-hl]
  refine .sl vf (by rw[hl];exact hc) hm (λi e he=>?_) (λi j e p he hp=>?_) (λi j e p he hp=>?_) ?_
  ·obtain⟨e0,h0,rfl⟩:=Yu he;simpa using hs i e0 h0
  ·obtain⟨e0,h0,rfl⟩:=Yu he
   obtain⟨p0,h1,rfl⟩:=Yu hp
   exact hC i j e0 p0 h0 h1
  ·obtain⟨e0,h0,rfl⟩:=Yu he
   obtain⟨p0,h1,rfl⟩:=Yu hp
   exact ih i j e0 p0 h0 h1
  ·rw[hl]
   cases r with
   |no=>trivial
   |full=>exact hr
   |own j=>
    simp only[Right.cut,Bool.false_eq_true,false_or]
    by_cases hj:j<m
    ·rw[if_pos hj]
     rcases hr with ⟨hr,x,hx⟩|hr
     ·exact .inl ⟨hr,x,by show(if j<m then _ else _)=_;rw[if_pos hj];exact hx⟩
     ·exact .inr ⟨hr.1,by show(if j<m then _ else _)=_;rw[if_pos hj];exact hr.2⟩
    ·rw[if_neg hj];trivial
 |ip vf hC _ ih=>
  unfold PV.strip
  rw[Xw]
  refine .ip vf (λj p hp=>?_) (λj p hp=>?_)
  ·obtain⟨q,hq,rfl⟩:=Yu hp;exact hC j q hq
  ·obtain⟨q,hq,rfl⟩:=Yu hp;exact ih j q hq
 |@bp k off b hb=>
  unfold PV.strip
  split
  ·rename_i hk;exact .bp (by show(if k<m then _ else _)=_;rw[if_pos hk];exact hb)
  ·exact .any _
 |fn hn hm _ _ ih1 ih2=>
  unfold PV.strip
  rw[Xw,Xw]
  exact .fn (by simpa using hn) (by simpa using hm) (λi p v hp hv=>by obtain⟨q,hq,rfl⟩:=Yu hp;exact ih1 i q v hq hv) (λi p v hp hv=>by obtain⟨q,hq,rfl⟩:=Yu hp;exact ih2 i q v hq hv)
 |@mp k b hb=>
  unfold PV.strip
  split
  ·rename_i hk;exact .mp (by show(if k<m then _ else _)=_;rw[if_pos hk];exact hb)
  ·exact .any _
 |@bs k off n s b o cap full hb h1 h2 h3 h4=>
  unfold PV.strip
  split
  ·rename_i hk;exact .bs (by show(if k<m then _ else _)=_;rw[if_pos hk];exact hb) h1 h2 h3 h4
  ·exact .any _
 |@yl k b hb=>
  unfold PV.strip
  split
  ·rename_i hk;exact .yl (by show(if k<m then _ else _)=_;rw[if_pos hk];exact hb)
  ·exact .any _
 |@tsn j n s h=>
  unfold PV.strip
  split
  ·exact .tsn h
  ·exact .any _
 |@ts j n s b cap h hp hn hm=>
  unfold PV.strip
  split
  ·rename_i hk;exact .ts (by show(if j<m then _ else _)=_;rw[if_pos (hk.resolve_left (by omega))];exact h) hp hn hm
  ·exact .any _
 |@tp j n off b cap h=>
  unfold PV.strip
  split
  ·rename_i hk;exact .tp (by show(if j<m then _ else _)=_;rw[if_pos hk];exact h)
  ·exact .any _
theorem Vi {α:Type} {f:α->α} {l:List α} (h:∀ (i:Nat) (x:α),l[i]?=some x->f x=x):l.map f=l:=by
 apply List.ext_getElem?
 intro i
 rw[List.getElem?_map]
 cases hx:l[i]? with
 |none=>rfl
 |some x=>simp[h i x hx]
theorem RV.strip_id {g:Gh} {m:Nat} (hB:∀ k,m<=k->g.B k=none) (hT:∀ k n,m<=k->g.T k n=none) {p:PV} {v:Value} (h:RV g p v):p.strip m=p:=by
 have lst:∀ {cs:List PV} {vs:Array Value},cs.length=vs.size->(∀ (i:Nat) (p:PV) (v:Value),cs[i]?=some p->vs[i]?=some v->p.strip m=p)->cs.map (PV.strip m)=cs:=λ{cs vs} hn ih=>by
  refine Vi λi x hx=>?_
  have hlt:i<vs.size:=hn▸(List.getElem?_eq_some_iff.1 hx).1
  exact ih i x _ hx (Array.getElem?_eq_getElem hlt)
 induction h with
 |any v=>simp[PV.strip]
 |sc h=>simp[PV.strip]
 |agg hn _ ih=>simp only[PV.strip,Xw];rw[lst hn ih]
 |tup hn _ ih=>simp only[PV.strip,Xw];rw[lst hn ih]
 |nilsl r s=>cases r<;>simp[PV.strip,PV.stripLL,Right.cut]
 |em r s A h=>cases r<;>first|(simp[PV.strip,PV.stripLL,Right.cut];done)|cases h
 |@sl r es b o cap s vf hc hm hs hC hR hr ih=>
  simp only[PV.strip,Zd]
  have e1:(es.map λe=>e.map (PV.strip m))=es:=Vi λi e he=>Vi λj p hp=>ih i j e p he hp
  rw[e1]
  cases r with
  |no=>simp[Right.cut]
  |full=>simp[Right.cut]
  |own j=>
   have hj:j<m:=by
    rcases Nat.lt_or_ge j m with h|h
    ·exact h
    ·rcases hr with ⟨_,x,hx⟩|hr
     ·rw[hT j 0 h]at hx;cases hx
     ·have:=hT j es.length h
      rw[hr.2]at this;cases this
   simp[Right.cut,hj]
 |ip vf hC _ ih=>
  simp only[PV.strip,Xw]
  rw[Vi λi p hp=>ih i p hp]
 |@bp k off b hb=>
  have hk:k<m:=by
   rcases Nat.lt_or_ge k m with h|h
   ·exact h
   ·rw[hB k h]at hb;cases hb
  simp[PV.strip,hk]
 |fn hn hm _ _ ih1 ih2=>simp only[PV.strip,Xw];rw[lst hn ih1,lst hm ih2]
 |@bs k off n s b o cap full hb h1 h2 h3 h4=>
  have hk:k<m:=by
   rcases Nat.lt_or_ge k m with h|h
   ·exact h
   ·rw[hB k h]at hb;cases hb
  simp[PV.strip,hk]
 |@mp k b hb=>
  have hk:k<m:=by
   rcases Nat.lt_or_ge k m with h|h
   ·exact h
   ·rw[hB k h]at hb;cases hb
  simp[PV.strip,hk]
 |@yl k b hb=>
  have hk:k<m:=by
   rcases Nat.lt_or_ge k m with h|h
   ·exact h
   ·rw[hB k h]at hb;cases hb
  simp[PV.strip,hk]
 |tsn h=>simp[PV.strip,h]
 |@ts j n s b cap h hp hn hm=>
  have hk:j<m:=by
   rcases Nat.lt_or_ge j m with h1|h1
   ·exact h1
   ·rw[hT j n h1]at h;cases h
  simp[PV.strip,hk]
 |@tp j n off b cap h=>
  have hk:j<m:=by
   rcases Nat.lt_or_ge j m with h1|h1
   ·exact h1
   ·rw[hT j n h1]at h;cases h
  simp[PV.strip,hk]
def Blk.strip (m:Nat):Blk->Blk
 |.cells cs=>.cells (cs.map (PV.strip m))
 |.loop env ps ai bd cA cB st pend=>.loop (env.map (PV.strip m)) ps ai bd cA cB st pend
 |.map kl vals c=>.map kl (vals.map (PV.strip m)) c
 |b=>b
theorem LP.strip {g:Gh} {cs:List PV} {vs:Array Value} (h:LP g cs vs) (m:Nat):LP (g.cut m) (cs.map (PV.strip m)) vs:=
 ⟨by simpa using h.1,λi p v hp hv=>by obtain⟨q,hq,rfl⟩:=Yu hp;exact(h.2 i q v hq hv).strip m⟩
theorem LR.strip {g:Gh} {cs:List PV} {vs:Array Value} (h:LR g cs vs) (m:Nat):LR (g.cut m) (cs.map (PV.strip m)) vs:=
 ⟨by simpa using h.1,λi p v hp hv=>by obtain⟨q,hq,rfl⟩:=Yu hp;exact(h.2 i q v hq hv).strip m⟩
def Left (m:Nat) (H0 H H2:List Blk):Prop:=
 H2.length=m/\∀ (k:Nat) (x:Blk),H2[k]?=some x->(H[k]?=some x/\H0[k]?=some x)\/∃ y:Blk,H[k]?=some y/\x=y.strip m
theorem cut_blk {g:Gh} {w:World} {k m:Nat} (hk:k<m) {x:Blk} (h:BOk g w k x) (hx:∀ cs,(x=.cells cs\/(∃ ps ai bd cA cB st pend,x=.loop cs ps ai bd cA cB st pend)\/∃ kl c,x=.map kl cs c)->∀ b,g.B k=some b->cs.map (PV.strip m)=cs):BOk (g.cut m) w k x:=by
 have hB:(g.cut m).B k=g.B k:=if_pos hk
 cases x with
 |cells cs=>
  rcases h with h|⟨b,vs,e,h1,h2,h3,h4⟩
  ·exact .inl (hB.trans h)
  ·refine .inr ⟨b,vs,e,hB.trans h1,h2,?_,h4⟩
   have:=h3.strip m
   rwa [hx cs (.inl rfl) b h1]at this
 |map kl vals c=>
  rcases h with h|⟨b,es,h1,h2,h3,h4⟩
  ·exact .inl (hB.trans h)
  ·refine .inr ⟨b,es,hB.trans h1,h2,h3,?_⟩
   have:=h4.strip m
   rwa [hx vals (.inr (.inr ⟨_,_,rfl⟩)) b h1]at this
 |iter mm since seen last=>
  rcases h with h|⟨b,bm,h1,h2,h3,h4⟩
  ·exact .inl (hB.trans h)
  ·exact .inr ⟨b,bm,hB.trans h1,h2,(if_pos (Nat.lt_trans h2 hk):(g.cut m).B mm=g.B mm).trans h3,h4⟩
 |grow n s=>
  have hT:∀ i,(g.cut m).T k i=g.T k i:=λi=>if_pos hk
  refine⟨λn' hn=>(hT n').trans (h.1 n' hn),λb cap hb=>?_⟩
  rw[hT]at hb
  obtain⟨h1,h2⟩:=h.2 b cap hb
  exact⟨by show(g.O b).bind _=_;rw[h1];exact if_pos hk,h2⟩
 |tgrow n s cs=>
  have hT:∀ i,(g.cut m).T k i=g.T k i:=λi=>if_pos hk
  refine⟨λn' hn=>(hT n').trans (h.1 n' hn),h.2.1,h.2.2.1,λb cap hb=>?_⟩
  rw[hT]at hb
  obtain⟨h1,⟨vs,e,h3,h4,h5⟩,h2⟩:=h.2.2.2 b cap hb
  have h6:=h5.strip m
  rw[Vi λi p hp=>by obtain⟨v,rfl,_⟩:=scL_get h.2.2.1 hp;simp[PV.strip]]at h6
  exact⟨by show(g.O b).bind _=_;rw[h1];exact if_pos hk,⟨vs,e,h3,h4,h6⟩,h2⟩
 |loop env ps ai bd cA cB st pend=>
  rcases h with h|⟨b,r,h1,h2,h3,h4,h5,h6,h7,h8⟩
  ·exact .inl (hB.trans h)
  ·refine .inr ⟨b,r,hB.trans h1,h2,h3,h4,h5,h6,h7,?_⟩
   have:=h8.strip m
   rwa [hx env (.inr (.inl ⟨_,_,_,_,_,_,_,rfl⟩)) b h1]at this
theorem cut_blk_strip {g:Gh} {w:World} {k m:Nat} (hk:k<m) {x:Blk} (h:BOk g w k x):BOk (g.cut m) w k (x.strip m):=by
 have hB:(g.cut m).B k=g.B k:=if_pos hk
 cases x with
 |cells cs=>
  rcases h with h|⟨b,vs,e,h1,h2,h3,h4⟩
  ·exact .inl (hB.trans h)
  ·exact .inr ⟨b,vs,e,hB.trans h1,h2,h3.strip m,h4⟩
 |map kl vals c=>
  rcases h with h|⟨b,es,h1,h2,h3,h4⟩
  ·exact .inl (hB.trans h)
  ·exact .inr ⟨b,es,hB.trans h1,h2,h3,h4.strip m⟩
 |iter mm since seen last=>exact cut_blk hk h (λ_ e=>by rcases e with e|⟨_,_,_,_,_,_,_,e⟩|⟨_,_,e⟩<;>cases e)
 |grow n s=>exact cut_blk hk h (λ_ e=>by rcases e with e|⟨_,_,_,_,_,_,_,e⟩|⟨_,_,e⟩<;>cases e)
 |tgrow n s cs=>exact cut_blk hk h (λ_ e=>by rcases e with e|⟨_,_,_,_,_,_,_,e⟩|⟨_,_,e⟩<;>cases e)
 |loop env ps ai bd cA cB st pend=>
  rcases h with h|⟨b,r,h1,h2,h3,h4,h5,h6,h7,h8⟩
  ·exact .inl (hB.trans h)
  ·exact .inr ⟨b,r,hB.trans h1,h2,h3,h4,h5,h6,h7,h8.strip m⟩
theorem cut_inv {g0 g:Gh} {H0 H H2:List Blk} {w0 w:World} {m:Nat} (hI0:Inv g0 H0 w0) (hS:Step H0.length g0 w0 g w) (hI:Inv g H w) (hm:H0.length<=m) (hL:Left m H0 H H2):Inv (g.cut m) H2 w/\Step H0.length g0 w0 (g.cut m) w:=by
 obtain⟨hlen,hL⟩:=hL
 have hO:∀ b k,(g.cut m).O b=some k↔g.O b=some k/\k<m:=λb k=>by
  show(g.O b).bind _=_↔_
  cases h:g.O b with
  |none=>simp
  |some j=>
   simp only[Option.bind_some]
   split
   ·simp;rintro rfl;assumption
   ·simp;rintro rfl;omega
 refine⟨⟨hI.C,λk x hx=>?_,λk b h=>?_,λb k h=>hI.lt b k ((hO b k).1 h).1,λk hk=>if_neg (by omega),λk n hk=>if_neg (by omega),λb k h=>by rw[hlen];exact((hO b k).1 h).2⟩,
  ⟨⟨λb o v h=>hS.le.C b o v h,λj n x h=>?_,λk b h=>?_,λb k h=>?_⟩,λk hk=>(if_pos (by omega):(if k<m then g.B k else none)=g.B k).trans (hS.B k hk),hS.os,hS.tape,hS.output,hS.size,hS.block,λb k h=>hS.O b k ((hO b k).1 h).1,hS.C⟩⟩
 ·have hk:k<m:=hlen▸(List.getElem?_eq_some_iff.1 hx).1
  rcases hL k x hx with ⟨h1,h0⟩|⟨y,h1,rfl⟩
  ·refine cut_blk hk (hI.blk k x h1) λcs e b hb=>?_
   have hk0:k<H0.length:=(List.getElem?_eq_some_iff.1 h0).1
   have hh:g0.B k=none\/∃ vs,LP g0 cs vs:=by
    rcases e with rfl|⟨_,_,_,_,_,_,_,rfl⟩|⟨_,_,rfl⟩
    ·rcases hI0.blk k _ h0 with h2|⟨b',vs,e,h2,_,h3,_⟩
     ·exact .inl h2
     ·exact .inr ⟨vs,h3⟩
    ·rcases hI0.blk k _ h0 with h2|⟨_,r,_,_,_,_,_,_,_,h3⟩
     ·exact .inl h2
     ·exact .inr ⟨_,h3.lp⟩
    ·rcases hI0.blk k _ h0 with h2|⟨_,es,_,_,_,h3⟩
     ·exact .inl h2
     ·exact .inr ⟨_,h3.lp⟩
   rcases hh with h2|⟨vs,h3⟩
   ·rw[hS.B k hk0,h2]at hb;cases hb
   ·refine Vi λi p hp=>?_
    have hlt:i<vs.size:=Nat.lt_of_lt_of_le (List.getElem?_eq_some_iff.1 hp).1 h3.1
    exact(h3.2 i p _ hp (Array.getElem?_eq_getElem hlt)).strip_id (λj hj=>hI0.domB j (by omega)) (λj n hj=>hI0.domT j n (by omega))
  ·exact cut_blk_strip hk (hI.blk k y h1)
 ·have h:(if k<m then g.B k else none)=some b:=h
  split at h
  ·rename_i hk;exact(hO b k).2 ⟨hI.own k b h,hk⟩
  ·cases h
 ·have hj:j<H0.length:=by
   rcases Nat.lt_or_ge j H0.length with h1|h1
   ·exact h1
   ·rw[hI0.domT j n h1]at h;cases h
  exact(if_pos (by omega):(if j<m then g.T j n else none)=g.T j n).trans (hS.le.T _ _ _ h)
 ·have hk:k<H0.length:=by
   rcases Nat.lt_or_ge k H0.length with h1|h1
   ·exact h1
   ·rw[hI0.domB k h1]at h;cases h
  exact(if_pos (by omega):(if k<m then g.B k else none)=g.B k).trans (hS.le.B _ _ h)
 ·exact(hO b k).2 ⟨hS.le.O _ _ h,by have:=hI0.domO b k h;omega⟩
end Go.PE
