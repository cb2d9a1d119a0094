/- A part of the proof. -/
import Derived.Test.YtibndgdocbbbeaaGreatFD
import Derived.Test.YtibndgdocbbbeaaGreatTU2
set_option linter.all false
set_option maxRecDepth 100000
set_option maxHeartbeats 4000000
set_option linter.unusedVariables false
namespace Go.Proofs.YtibndgdocbbbeaaGreat
open Go.PE
structure okG68 (x:G68):Prop where
 faz:(OkB) x.faz
 fx:OkSl (λ_=>True) 5 x.fx
structure okG171 (x:G171):Prop where
 fP:(OkB) x.fP
structure okG147 (x:G147):Prop where
 fD:OkSl (λ_=>True) 1000 x.fD
 fS:OkSl (λ_=>True) 1000 x.fS
 fv:OkSl okG171 1000 x.fv
structure okG100 (x:G100):Prop where
 fg:OkSl okG147 1000 x.fg
 fY:OkSl (λ_=>True) 6 x.fY
structure okG95 (x:G95):Prop where
 fR:OkSl (λ_=>True) 5 x.fR
 fh:OkSl okG100 3 x.fh
structure okG75 (x:G75):Prop where
 fX:x.fX<=9223372036854775807
 fax:(OkB) x.fax
 fm:OkSl (λ_=>True) 5 x.fm
 ff:OkSl okG95 5 x.ff
structure okG27 (x:G27):Prop where
 fay:(OkB) x.fay
 fi:OkSl okG68 4 x.fi
 fc:OkSl okG75 10 x.fc
 fp:OkSl (λ_=>True) 10 x.fp
 fG:OkSl (λ_=>True) 5 x.fG
structure okG326 (x:G326):Prop where
 fK:(OkB) x.fK
structure okG385 (x:G385):Prop where
 a0:okG326 x.a0
 a1:okG326 x.a1
 a2:okG326 x.a2
 a3:okG326 x.a3
 a4:okG326 x.a4
 a5:okG326 x.a5
 a6:okG326 x.a6
 a7:okG326 x.a7
 a8:okG326 x.a8
structure okG265 (x:G265):Prop where
 fu:x.fu<=9223372036854775807
theorem tF202 {a}:Tot (F202 a) (λ_=>True):=t_bd (λ_=>tL) λ_=>tL
theorem tJF275_1_1:Tot (JF275_1_1 ) (λ_=>True):=tL
theorem tLF275_1_8 {c:Sl Int} {b:Int} (a:(OkSl (λ_=>True) 1000) c) (g:0<=b) (f:b<=1000):Tot (LF275_1_8 c b) (λr=>match r with|.inl r=>(r=b+1/\b<1000)|.inr (.inl r)=>True|.inr (.inr r)=>True):=t_bd (λ_=>have d:=(a).le;t_bi (Xi a tI tI) λ_ _ _=>Xb (tF202) λ_ _=>Xc (λ_=>tL) λ_=>tL) λ_=>have e:=(a).le;tL
theorem tF275_1 {d:Sl Int} (b:(OkSl (λ_=>True) 1000) d):Tot (F275_1 d) (λ_=>True):=Xb (Xe (λc=>c) 1000 (by decide) (λc=>True) (T:=tru) tB tB tZ (λ_ _ e f=>(tLF275_1_8 b e f).mono tM)) ((by
 rintro(g|⟨⟩) a
 ·try dsimp only at a ⊢
  exact tL
 ·try dsimp only at a ⊢
  exact tJF275_1_1))
theorem tF203_1 {b:Sl Int} (a:(OkSl (λ_=>True) 1000) b):Tot (F203_1 b) (λ_=>True):=Xb (tF275_1 a) λ_ _=>tL
theorem tF124 {c} (b:(OkB) c):Tot (F124 c) (λ_=>True):=t_bd (λ_=>Xb (t_gbyB b) λ_ a=>Xb (tF203_1 a) λ_ _=>tL) λ_=>tL
theorem Yb {e d b f} {a:List G159} (c:okG27 b) (g:a.length+1<=500000000000):Tot (Yf e d b f a) (λr=>r.length<=a.length+1):=Xc (λ_=>Xb (t_gappK 1 (h:=tI)) λ_ _=>tL) λ_=>tL
theorem Wv {b a c}:Tot (F125 b a c) (λ_=>True):=t_bd (λ_=>tL) λ_=>tL
theorem tJF126_2 {a}:Tot (JF126_2 a) (λ_=>True):=Xc (λ_=>tL) λ_=>tL
theorem tF126 {a}:Tot (F126 a) (λ_=>True):=t_bd (λ_=>tJF126_2) λ_=>t_bd (λ_=>tJF126_2) λ_=>t_bd (λ_=>tJF126_2) λ_=>tJF126_2
theorem tF123_2 {f e d b g} {a:List G159} (c:okG27 b) (i:a.length+1<=500000000000):Tot (Vm f e d b g a) (λr=>r.length<=a.length+1):=Xc (λ_=>Xb (t_gappK 1 (h:=tI)) λ_ _=>tL) λ_=>tL
theorem tJF60_1_7 {e f} {b:List G159} (a:okG27 e) (g:b.length+1<=500000000000):Tot (JF60_1_7 e f b) (λr=>r.length<=b.length+1):=Xb (tF124 a.fay) λ_ _=>Xc (λ_=>Xb (tF123_2 a tI) λ_ _=>tL) λ_=>Xb (Wv) λ_ _=>Xc (λ_=>Xb (tF123_2 a tI) λ_ _=>tL) λ_=>Xb (Wv) λ_ _=>Xc (λ_=>Xb (tF123_2 a tI) λ_ _=>tL) λ_=>t_bd (λ_=>have c:=(a.fp).le;Xb (tF123_2 a tI) λ_ _=>tL) λ_=>have d:=(a.fp).le;Xb (tF123_2 a tI) λ_ _=>tL
theorem tJF60_1_68 {a:Int} {b:List G159} (c:b.length+0<=500000000000) (d:0<=a) (e:a<10):Tot (JF60_1_68 a b) (λr=>match r with|.inl r=>(r.1=a+1/\a<10)/\r.2.length<=b.length+0|.inr r=>r.length<=b.length+0):=tL
theorem tJF60_1_74 {c f g} {b:List G159} {a:Int} {d} (kv69:okG75 c) (e:okG27 f) (h:b.length+1<=500000000000) (j:0<=a) (i:a<10):Tot (JF60_1_74 c f g b a d) (λr=>match r with|.inl r=>(r.1=a+1/\a<10)/\r.2.length<=b.length+1|.inr r=>r.length<=b.length+1):=Xb (Yb e tI) λ_ _=>(tJF60_1_68 tI tI tI).mono tM
theorem tJF60_1_92 {a:Int} {b} (c:0<=a) (d:a<5):Tot (JF60_1_92 a b) (λr=>match r with|.inl r=>True/\(r.2=a+1/\a<5)|.inr r=>True):=tL
theorem tLF60_1_104 {d e} {c:Int} (a:okG95 d) (k:0<=c) (j:c<=3):Tot (LF60_1_104 d e c) (λr=>match r with|.inl r=>True/\(r.2=c+1/\c<3)|.inr r=>True):=t_bd (λ_=>have g:=(a.fh).le;t_bi (Xi (a.fh) tI tI) λ_ b _=>Xc (λ_=>tL) λ_=>t_bd (λ_=>have i:=(b.fg).le;tL) λ_=>have f:=(b.fg).le;tL) λ_=>have h:=(a.fh).le;tL
theorem tJF60_1_96 {d} {a:Int} {f} (c:okG95 d) (k:0<=a) (i:a<5):Tot (JF60_1_96 d a f) (λr=>match r with|.inl r=>True/\(r.2=a+1/\a<5)|.inr r=>True):=Xb (Xe (λ(e,b)=>b) 3 (by decide) (λ(e,b)=>True) (T:=tru) tB tB tZ (λ⟨e,b⟩ j g h=>(tLF60_1_104 c g h).mono tM)) λ_ _=>(tJF60_1_92 tI tI).mono tM
theorem tLF60_1_89 {c d} {b:Int} (kv69:okG75 c) (j:0<=b) (i:b<=5):Tot (LF60_1_89 c d b) (λr=>match r with|.inl r=>True/\(r.2=b+1/\b<5)|.inr r=>True):=t_bd (λ_=>have h:=(kv69.ff).le;t_bi (Xi (kv69.ff) tI tI) λ_ a _=>Xc (λ_=>(tJF60_1_96 a tI tI).mono tM) λ_=>t_bd (λ_=>have f:=(a.fR).le;(tJF60_1_96 a tI tI).mono tM) λ_=>have g:=(a.fR).le;(tJF60_1_96 a tI tI).mono tM) λ_=>have e:=(kv69.ff).le;tL
theorem tJF60_1_72 {e h k} {b:List G159} {a:Int} {g} (kv69:okG75 e) (f:okG27 h) (l:b.length+1<=500000000000) (o:0<=a) (m:a<10):Tot (JF60_1_72 e h k b a g) (λr=>match r with|.inl r=>(r.1=a+1/\a<10)/\r.2.length<=b.length+1|.inr r=>r.length<=b.length+1):=Xb (Xe (λ(d,c)=>c) 5 (by decide) (λ(d,c)=>True) (T:=tru) tB tB tZ (λ⟨d,c⟩ n j i=>(tLF60_1_89 kv69 j i).mono tM)) λ_ _=>(tJF60_1_74 kv69 f tI tI tI).mono tM
theorem tLF60_1_65 {g h} {c:Int} {d:List G159} (b:okG27 g) (i:d.length+1<=500000000000) (k:0<=c) (j:c<=10):Tot (LF60_1_65 g h c d) (λr=>match r with|.inl r=>(r.1=c+1/\c<10)/\r.2.length<=d.length+1|.inr r=>r.length<=d.length+1):=t_bd (λ_=>have f:=(b.fc).le;t_bi (Xi (b.fc) tI tI) λ_ a _=>Xb (tF124 a.fax) λ_ _=>Xc (λ_=>(tJF60_1_72 a b tI tI tI).mono tM) λ_=>(tJF60_1_72 a b tI tI tI).mono tM) λ_=>have e:=(b.fc).le;tL
theorem tJF60_1_5 {h i} {e:List G159} (d:okG27 h) (k:e.length+12<=500000000000):Tot (JF60_1_5 h i e) (λr=>r.length<=e.length+12):=Xb (Xe (λ(a,b)=>a) 10 (by decide) (λ(a,b)=>(b.length:Int)<=e.length+0+1*a) (T:=λr=>r.length<=e.length+11) tB tB tZ (λ⟨a,b⟩ j f g=>(by
 try dsimp only at j f g ⊢
 refine(tLF60_1_65 d tI f g).mono ?_
 exact tM))) λ_ c=>(by
 try dsimp only at c ⊢
 exact(tJF60_1_7 d tI).mono tM)
theorem tLF60_1_122 {g h} {a:Int} {b:List G159} (c:okG27 g) (i:b.length+1<=500000000000) (k:0<=a) (j:a<=4):Tot (LF60_1_122 g h a b) (λr=>match r with|.inl r=>(r.1=a+1/\a<4)/\r.2.length<=b.length+1|.inr r=>r.length<=b.length+1):=t_bd (λ_=>have e:=(c.fi).le;t_bi (Xi (c.fi) tI tI) λ_ d _=>Xb (tF124 d.faz) λ_ _=>Xc (λ_=>Xb (Yb c tI) λ_ _=>tL) λ_=>Xb (Wv) λ_ _=>Xc (λ_=>Xb (Yb c tI) λ_ _=>tL) λ_=>Xb (tF126) λ_ _=>Xb (Yb c tI) λ_ _=>tL) λ_=>have f:=(c.fi).le;tL
theorem tF60_1 {g v1} {v2:List G159} (d:okG27 g) (i:v2.length+17<=500000000000):Tot (F60_1 g v1 v2) (λr=>r.length<=v2.length+17):=Xb (Xe (λ(a,b)=>a) 4 (by decide) (λ(a,b)=>(b.length:Int)<=v2.length+0+1*a) (T:=λr=>r.length<=v2.length+5) tB tB tZ (λ⟨a,b⟩ h e f=>(by
 try dsimp only at h e f ⊢
 refine(tLF60_1_122 d tI e f).mono ?_
 exact tM))) λ_ c=>(by
 try dsimp only at c ⊢
 exact(tJF60_1_5 d tI).mono tM)
theorem tR127_0_1 {k i c g l d e f b} {a:List G58} (j:okG27 b) (m:a.length+1<=500000000000):Tot (Qa k i c g l d e f b a) (λr=>r.length<=a.length+1):=Xb (t_gappK 1 (h:=tI)) λ_ _=>tL
theorem tLF276_1_14 {f} {b:Int} {c:List G58} (a:okG27 f) (g:c.length+1<=500000000000) (i:0<=b) (h:b<=10):Tot (LF276_1_14 f b c) (λr=>match r with|.inl r=>(r.1=b+1/\b<10)/\r.2.length<=c.length+1|.inr r=>r.length<=c.length+1):=t_bd (λ_=>have e:=(a.fp).le;t_bi (Xi (a.fp) tI tI) λ_ _ _=>Xb (tR127_0_1 a tI) λ_ _=>tL) λ_=>have d:=(a.fp).le;tL
theorem tJF276_1_6 {h} {a:List G58} (e:okG27 h) (j:a.length+11<=500000000000):Tot (JF276_1_6 h a) (λr=>r.length<=a.length+11):=Xb (Xe (λ(c,d)=>c) 10 (by decide) (λ(c,d)=>(d.length:Int)<=a.length+0+1*c) (T:=λr=>r.length<=a.length+11) tB tB tZ (λ⟨c,d⟩ i f g=>(by
 try dsimp only at i f g ⊢
 refine(tLF276_1_14 e tI f g).mono ?_
 exact tM))) λ_ b=>(by
 try dsimp only at b ⊢
 exact tL)
theorem tJF276_1_40 {a:Int} {b:List G58} (c:b.length+0<=500000000000) (d:0<=a) (e:a<10):Tot (JF276_1_40 a b) (λr=>match r with|.inl r=>(r.1=a+1/\a<10)/\r.2.length<=b.length+0|.inr r=>r.length<=b.length+0):=tL
theorem tJF276_1_67 {a:Int} {b:List G58} (c:b.length+0<=500000000000) (d:0<=a) (e:a<5):Tot (JF276_1_67 a b) (λr=>match r with|.inl r=>(r.1=a+1/\a<5)/\r.2.length<=b.length+0|.inr r=>r.length<=b.length+0):=tL
theorem tJF276_1_82 {a:Int} {b:List G58} (c:b.length+0<=500000000000) (d:0<=a) (e:a<3):Tot (JF276_1_82 a b) (λr=>match r with|.inl r=>(r.1=a+1/\a<3)/\r.2.length<=b.length+0|.inr r=>r.length<=b.length+0):=tL
theorem tLF276_1_96 {k:G100} {p:G27} {d:Int} {g:Int} {i:Int} {h:Int} {j:List G58} (l:okG100 k) (s:okG27 p) (G:j.length+1<=500000000000) (J:0<=d/\d<ln p.fc) (F:∀ b,gx (Sl.es p.fc) d=some b->0<=g/\g<ln b.ff) (E:∀ b,gx (Sl.es p.fc) d=some b->∀ a,gx (Sl.es b.ff) g=some a->0<=i/\i<ln a.fh) (q3:∀ b,gx (Sl.es p.fc) d=some b->∀ a,gx (Sl.es b.ff) g=some a->∀ c,gx (Sl.es a.fh) i=some c->c=k) (H:0<=h) (I:h<=1000):Tot (LF276_1_96 k p d g i h j) (λr=>match r with|.inl r=>(r.1=h+1/\h<1000)/\r.2.length<=j.length+1|.inr r=>r.length<=j.length+1):=t_bd (λ_=>have y:=(l.fg).le;t_bi (Xi (s.fc) tI tI) λb q f=>have C:=F b f;t_bi (Xi (q.ff) tI tI) λa o e=>have B:=E b f a e;t_bi (Xi (o.fh) tI tI) λc m n=>(by
 have A:ln c.fg=ln k.fg:=congrArg (λz=>ln z.fg) (q3 b f a e c n)
 refine t_bi (Xi (m.fg) tI tI) λw u t=>?_
 refine Xb (tR127_0_1 s tI) λD v=>?_
 exact tL)) λ_=>have x:=(l.fg).le;tL
theorem tLF276_1_79 {h:G95} {m:G27} {g:Int} {i:Int} {f:Int} {e:List G58} (k:okG95 h) (p:okG27 m) (O:e.length+1001<=500000000000) (R:0<=g/\g<ln m.fc) (E:∀ b,gx (Sl.es m.fc) g=some b->0<=i/\i<ln b.ff) (C:∀ b,gx (Sl.es m.fc) g=some b->∀ c,gx (Sl.es b.ff) i=some c->c=h) (P:0<=f) (Q:f<=3):Tot (LF276_1_79 h m g i f e) (λr=>match r with|.inl r=>(r.1=f+1/\f<3)/\r.2.length<=e.length+1001|.inr r=>r.length<=e.length+1001):=t_bd (λ_=>have y:=(k.fh).le;t_bi (Xi (p.fc) tI tI) λb n a=>have x:=E b a;t_bi (Xi (n.ff) tI tI) λc t d=>(by
 have A:ln c.fh=ln h.fh:=congrArg (λz=>ln z.fh) (C b a c d)
 refine t_bi (Xi (t.fh) tI tI) λK o q=>?_
 have G:=E b a
 have H:ln c.fh=ln h.fh:=congrArg (λz=>ln z.fh) (C b a c d)
 refine Xb (Xe (λ(j,l)=>j) 1000 (by decide) (λ(j,l)=>(l.length:Int)<=e.length+0+1*j) (T:=λr=>r.length<=e.length+1001) tB tB tZ ?_) ?_
 ·rintro⟨j,l⟩ N F D
  try dsimp only at N F D ⊢
  refine(tLF276_1_96 o p tI tI (oq a tI) (oq a (oq d tI)) (by intro M v;obtain rfl:=Option.some.inj (a.symm.trans v);intro I u;obtain rfl:=Option.some.inj (d.symm.trans u);intro J w;obtain rfl:=Option.some.inj (q.symm.trans w);rfl) F D).mono ?_
  exact tM
 ·rintro L s
  try dsimp only at s ⊢
  exact(tJF276_1_82 tI tI tI).mono tM)) λ_=>have B:=(k.fh).le;tL
theorem tLF276_1_64 {e:G75} {o:G27} {g:Int} {d:Int} {c:List G58} (h:okG75 e) (m:okG27 o) (B:c.length+4004<=500000000000) (E:0<=g/\g<ln o.fc) (u:∀ a,gx (Sl.es o.fc) g=some a->a=e) (C:0<=d) (D:d<=5):Tot (LF276_1_64 e o g d c) (λr=>match r with|.inl r=>(r.1=d+1/\d<5)/\r.2.length<=c.length+4004|.inr r=>r.length<=c.length+4004):=t_bd (λ_=>have p:=(h.ff).le;t_bi (Xi (m.fc) tI tI) λa k b=>(by
 have v:ln a.ff=ln e.ff:=congrArg (λz=>ln z.ff) (u a b)
 refine t_bi (Xi (k.ff) tI tI) λy j n=>?_
 have t:ln a.ff=ln e.ff:=congrArg (λz=>ln z.ff) (u a b)
 refine Xb (Xe (λ(f,i)=>f) 3 (by decide) (λ(f,i)=>(i.length:Int)<=c.length+0+1001*f) (T:=λr=>r.length<=c.length+4004) tB tB tZ ?_) ?_
 ·rintro⟨f,i⟩ A w s
  try dsimp only at A w s ⊢
  refine(tLF276_1_79 j m tI tI (oq b tI) (oq b (oq n rfl)) w s).mono ?_
  exact tM
 ·rintro x l
  try dsimp only at l ⊢
  exact(tJF276_1_67 tI tI tI).mono tM)) λ_=>have q:=(h.ff).le;tL
theorem tLF276_1_37 {l} {b:Int} {c:List G58} (a:okG27 l) (s:c.length+24025<=500000000000) (u:0<=b) (t:b<=10):Tot (LF276_1_37 l b c) (λr=>match r with|.inl r=>(r.1=b+1/\b<10)/\r.2.length<=c.length+24025|.inr r=>r.length<=c.length+24025):=t_bd (λ_=>have m:=(a.fc).le;t_bi (Xi (a.fc) tI tI) λ_ h e=>Xb (tR127_0_1 a tI) λj _=>t_bi (Xi (a.fc) tI tI) λ_ _ g=>(by
 obtain rfl:=Option.some.inj (e.symm.trans g)
 refine Xb (Xe (λ(d,f)=>d) 5 (by decide) (λ(d,f)=>(f.length:Int)<=j.length+0+4004*d) (T:=λr=>r.length<=j.length+24024) tB tB tZ ?_) ?_
 ·rintro⟨d,f⟩ p n k
  try dsimp only at p n k ⊢
  refine(tLF276_1_64 h a tI tI (oq e rfl) n k).mono ?_
  exact tM
 ·rintro q i
  try dsimp only at i ⊢
  exact(tJF276_1_40 tI tI tI).mono tM)) λ_=>have o:=(a.fc).le;tL
theorem tJF276_1_4 {h} {c:List G58} (e:okG27 h) (j:c.length+264286<=500000000000):Tot (JF276_1_4 h c) (λr=>r.length<=c.length+264286):=Xb (Xe (λ(a,b)=>a) 10 (by decide) (λ(a,b)=>(b.length:Int)<=c.length+0+24025*a) (T:=λr=>r.length<=c.length+264275) tB tB tZ (λ⟨a,b⟩ i f g=>(by
 try dsimp only at i f g ⊢
 refine(tLF276_1_37 e tI f g).mono ?_
 exact tM))) λ_ d=>(by
 try dsimp only at d ⊢
 exact(tJF276_1_6 e tI).mono tM)
theorem tJF276_1_130 {a:Int} {c} {b:List G58} (d:b.length+0<=500000000000) (e:0<=a) (f:a<4):Tot (JF276_1_130 a c b) (λr=>match r with|.inl r=>True/\(r.2.1=a+1/\a<4)/\r.2.2.length<=b.length+0|.inr r=>r.length<=b.length+0):=tL
theorem tLF276_1_156 {d:G68} {k:G27} {c:Int} {j} {b:Int} {e:List G58} (f:okG68 d) (i:okG27 k) (v:e.length+1<=500000000000) (x:0<=c/\c<ln k.fi) (u:∀ a,gx (Sl.es k.fi) c=some a->a=d) (y:0<=b) (w:b<=5):Tot (LF276_1_156 d k c j b e) (λr=>match r with|.inl r=>True/\(r.2.1=b+1/\b<5)/\r.2.2.length<=e.length+1|.inr r=>True/\r.2.length<=e.length+1):=t_bd (λ_=>have s:=(f.fx).le;t_bi (Xi (i.fi) tI tI) λa h g=>(by
 have t:ln a.fx=ln d.fx:=congrArg (λz=>ln z.fx) (u a g)
 refine t_bi (Xi (h.fx) tI tI) λo n l=>?_
 refine Xb (tR127_0_1 i tI) λq m=>?_
 exact tL)) λ_=>have p:=(f.fx).le;tL
theorem tLF276_1_126 {t n} {a:Int} {c:List G58} (d:okG27 t) (x:c.length+7<=500000000000) (z:0<=a) (y:a<=4):Tot (LF276_1_126 t n a c) (λr=>match r with|.inl r=>True/\(r.2.1=a+1/\a<4)/\r.2.2.length<=c.length+7|.inr r=>r.length<=c.length+7):=t_bd (λ_=>have o:=(d.fi).le;t_bi (Xi (d.fi) tI tI) λ_ j f=>Xb (tR127_0_1 d tI) λh _=>t_bi (Xi (d.fi) tI tI) λ_ _ k=>(by
 obtain rfl:=Option.some.inj (f.symm.trans k)
 refine Xb (Xe (λ(i,b,e)=>b) 5 (by decide) (λ(i,b,e)=>(e.length:Int)<=h.length+0+1*b) (T:=λr=>True/\r.2.length<=h.length+6) tB tB tZ ?_) ?_
 ·rintro⟨i,b,e⟩ w u q
  try dsimp only at w u q ⊢
  refine(tLF276_1_156 j d tI tI (oq f rfl) u q).mono ?_
  exact tM
 ·rintro⟨p,v⟩ g
  try dsimp only at g ⊢
  obtain⟨m,l⟩:=g
  exact(tJF276_1_130 tI tI tI).mono tM)) λ_=>have s:=(d.fi).le;tL
theorem tF276_1 {i} {e:List G58} (f:okG27 i) (k:e.length+264321<=500000000000):Tot (F276_1 i e) (λr=>r.length<=e.length+264321):=Xb (Xe (λ(c,a,b)=>a) 4 (by decide) (λ(c,a,b)=>(b.length:Int)<=e.length+0+7*a) (T:=λr=>r.length<=e.length+35) tB tB tZ (λ⟨c,a,b⟩ j g h=>(by
 try dsimp only at j g h ⊢
 refine(tLF276_1_126 f tI g h).mono ?_
 exact tM))) λ_ d=>(by
 try dsimp only at d ⊢
 exact(tJF276_1_4 f tI).mono tM)
theorem tJF127_2 {a:List G58} (b:a.length+0<=500000000000):Tot (JF127_2 a) (λr=>ln r<=a.length+0):=tL
theorem tF127 {c} (b:okG27 c):Tot (F127 c) (λr=>ln r<=264321):=Xb (tF276_1 b tI) λ_ a=>(by
 simp only[List.length_nil,Nat.zero_add]at a
 exact(tJF127_2 tI).mono tM)
theorem tF128 {a}:Tot (F128 a) (λ_=>True):=Xb (Wv) λ_ _=>Xc (λ_=>Xb (Wv) λ_ _=>tL) λ_=>tL
theorem tJF129_2:Tot (JF129_2 ) (λ_=>True):=tL
theorem tLF129_9 {e f} {b:Int} (a:okG27 e) (h:0<=b) (g:b<=5):Tot (LF129_9 e f b) (λr=>match r with|.inl r=>(r=b+1/\b<5)|.inr (.inl r)=>True|.inr (.inr r)=>True):=t_bd (λ_=>have d:=(a.fG).le;t_bi (Xi (a.fG) tI tI) λ_ _ _=>t_be (λ_=>tL) λ_=>tL) λ_=>have c:=(a.fG).le;tL
theorem tF129 {d f} (b:okG27 d):Tot (F129 d f) (λ_=>True):=Xb (Xe (λc=>c) 5 (by decide) (λc=>True) (T:=tru) tB tB tZ (λ_ _ e g=>(tLF129_9 b e g).mono tM)) ((by
 rintro(h|⟨⟩) a
 ·try dsimp only at a ⊢
  exact tL
 ·try dsimp only at a ⊢
  exact tJF129_2))
theorem tJF61_1_7 {c e} {b:List G159} {d} (a:okG27 c) (f:b.length+1<=500000000000):Tot (JF61_1_7 c e b d) (λr=>r.length<=b.length+1):=Xb (tF123_2 a tI) λ_ _=>tL
theorem tLF61_1_23 {e c} {a:Int} (b:okG27 e) (h:0<=a) (g:a<=5):Tot (LF61_1_23 e c a) (λr=>match r with|.inl r=>True/\(r.2=a+1/\a<5)|.inr r=>True):=t_bd (λ_=>have f:=(b.fG).le;t_bi (Xi (b.fG) tI tI) λ_ _ _=>Xc (λ_=>tL) λ_=>Xb (tF128) λ_ _=>Xc (λ_=>tL) λ_=>t_bd (λ_=>t_bi (Xi (b.fG) tI tI) λ_ _ _=>tL) λ_=>tL) λ_=>have d:=(b.fG).le;tL
theorem tJF61_1_5 {e h} {d:List G159} (c:okG27 e) (i:d.length+1<=500000000000):Tot (JF61_1_5 e h d) (λr=>r.length<=d.length+1):=Xb (Xe (λ(b,a)=>a) 5 (by decide) (λ(b,a)=>True) (T:=tru) tB tB tZ (λ⟨b,a⟩ j f g=>(tLF61_1_23 c f g).mono tM)) λ_ _=>(tJF61_1_7 c tI).mono tM
theorem tLF61_1_44 {f:Sl G58} {j k} {b:Int} {c:List G159} {e} (a:(OkSl (λ_=>True) 1000000) f) (d:okG27 j) (i:GM.ok e) (l:c.length+1<=500000000000) (n:0<=b) (m:b<=1000000):Tot (LF61_1_44 f j k b c e) (λr=>match r with|.inl r=>(r.1=b+1/\b<1000000)/\r.2.1.length<=c.length+1/\GM.ok r.2.2|.inr r=>r.length<=c.length+1):=t_bd (λ_=>have g:=(a).le;t_bi (Xi a tI tI) λ_ _ _=>Xb (tF128) λ_ _=>Xc (λ_=>Xb (Yb d tI) λ_ _=>tL) λ_=>Xb (t_gmGet (by assumption)) λ_ _=>Xc (λ_=>Xb (Yb d tI) λ_ _=>tL) λ_=>Xb (tF129 d) λ_ _=>Xb (Yb d tI) λ_ _=>tL) λ_=>have h:=(a).le;tL
theorem tF61_1 {k l} {f:List G159} (d:okG27 k) (m:f.length+1000002<=500000000000):Tot (F61_1 k l f) (λr=>r.length<=f.length+1000002):=Xb (tF127 d) λh _=>Xb (Xe (λ(a,b,c)=>a) 1000000 (by decide) (λ(a,b,c)=>(b.length:Int)<=f.length+0+1*a/\GM.ok c) (T:=λr=>r.length<=f.length+1000001) tB tB tZ (λ⟨a,b,c⟩ g i j=>(by
 try dsimp only at g i j ⊢
 refine(tLF61_1_44 (OkSl.tr (s:=h) (n:=1000000) tI) d (by first|exact g|exact g.1|exact g.2|exact g.2.1) tI i j).mono ?_
 exact tM))) λ_ e=>(by
 try dsimp only at e ⊢
 exact(tJF61_1_5 d tI).mono tM)
theorem tLF130_10 {e f} {b:Int} (a:okG27 e) (h:0<=b) (g:b<=4):Tot (LF130_10 e f b) (λr=>match r with|.inl r=>True/\(r.2=b+1/\b<4)|.inr r=>True):=t_bd (λ_=>have c:=(a.fi).le;t_bi (Xi (a.fi) tI tI) λ_ _ _=>tL) λ_=>have d:=(a.fi).le;tL
theorem tF130w {g:G27} (e:okG27 g):Tot (F130 g) (λr=>0<=r/\r<=20):=Xb (Xe (λ(_,d)=>d) 4 (by decide) (λ(a,d)=>0<=a/\a<=5*d) (T:=λr=>0<=r/\r<=20) (by decide) (by decide) (by decide) (λ⟨a,d⟩ j h i=>(by
 dsimp only at j h i ⊢
 have p:=(e.fi).le
 refine t_bd (λc=>?_) λc=>Xd (by show 0<=a/\a<=20;omega)
 refine Xb (Xi e.fi h c) λb f=>?_
 have m:=(f.1.fx).le
 have q:=Xp (n:=a+ln b.fx) (by omega) (by omega)
 have l:=Xp (n:=d+1) (by omega) (by omega)
 exact Xd ⟨by show 0<=wi (a+ln b.fx)/\wi (a+ln b.fx)<=5*wi (d+1);omega,l,by show d<4;omega⟩))) λo k=>Xd k
theorem tF130 {b} (a:okG27 b):Tot (F130 b) (λ_=>True):=(tF130w a).mono λ_ _=>trivial
theorem tJF132_1_4 {a}:Tot (JF132_1_4 a) (λ_=>True):=tL
theorem tJF132_1_15 {a:Int} {b} (c:0<=a) (d:a<5):Tot (JF132_1_15 a b) (λr=>match r with|.inl r=>True/\(r.2=a+1/\a<5)|.inr r=>True):=tL
theorem tLF132_1_27 {d g} {b:Int} (a:okG95 d) (k:0<=b) (j:b<=3):Tot (LF132_1_27 d g b) (λr=>match r with|.inl r=>True/\(r.2=b+1/\b<3)|.inr r=>True):=t_bd (λ_=>have h:=(a.fh).le;t_bi (Xi (a.fh) tI tI) λ_ c _=>Xc (λ_=>tL) λ_=>t_be (λ_=>have i:=(c.fg).le;tL) λ_=>have f:=(c.fg).le;tL) λ_=>have e:=(a.fh).le;tL
theorem Qu {c} {b:Int} {f} (d:okG95 c) (k:0<=b) (i:b<5):Tot (Vl c b f) (λr=>match r with|.inl r=>True/\(r.2=b+1/\b<5)|.inr r=>True):=Xb (Xe (λ(e,a)=>a) 3 (by decide) (λ(e,a)=>True) (T:=tru) tB tB tZ (λ⟨e,a⟩ j g h=>(tLF132_1_27 d g h).mono tM)) λ_ _=>(tJF132_1_15 tI tI).mono tM
theorem tLF132_1_12 {k l} {d:Int} (c:okG75 k) (n:0<=d) (m:d<=5):Tot (LF132_1_12 k l d) (λr=>match r with|.inl r=>True/\(r.2=d+1/\d<5)|.inr r=>True):=t_bd (λ_=>have e:=(c.ff).le;t_bi (Xi (c.ff) tI tI) λ_ a _=>Xc (λ_=>(Qu a tI tI).mono tM) λ_=>t_be (λ_=>have j:=(a.fh).le;(Qu a tI tI).mono tM) λ_=>have h:=(a.fh).le;t_bi (Xi (a.fh) tI tI) λ_ b _=>t_be (λ_=>have i:=(b.fg).le;(Qu a tI tI).mono tM) λ_=>have g:=(b.fg).le;t_bi (Xi (a.fh) tI tI) λ_ _ _=>(Qu a tI tI).mono tM) λ_=>have f:=(c.ff).le;tL
theorem tF132_1 {h d e} (b:okG75 d):Tot (F132_1 h d e) (λ_=>True):=Xb (Xe (λ(c,a)=>a) 5 (by decide) (λ(c,a)=>True) (T:=tru) tB tB tZ (λ⟨c,a⟩ i f g=>(tLF132_1_12 b f g).mono tM)) λ_ _=>tJF132_1_4
theorem tLF131_1_12 {g h i} {b:Int} {d:List G159} (a:okG27 g) (j:d.length+1<=500000000000) (l:0<=b) (k:b<=10):Tot (LF131_1_12 g h i b d) (λr=>match r with|.inl r=>(r.1=b+1/\b<10)/\r.2.length<=d.length+1|.inr r=>r.length<=d.length+1):=t_bd (λ_=>have f:=(a.fc).le;t_bi (Xi (a.fc) tI tI) λ_ c _=>Xb (tF132_1 c) λ_ _=>Xb (Yb a tI) λ_ _=>tL) λ_=>have e:=(a.fc).le;tL
theorem tF131_1 {h i} {a:List G159} {k} (d:okG27 h) (l:a.length+11<=500000000000):Tot (F131_1 h i a k) (λr=>r.length<=a.length+11):=Xb (Xe (λ(b,c)=>b) 10 (by decide) (λ(b,c)=>(c.length:Int)<=a.length+0+1*b) (T:=λr=>r.length<=a.length+11) tB tB tZ (λ⟨b,c⟩ j f g=>(by
 try dsimp only at j f g ⊢
 refine(tLF131_1_12 d tI f g).mono ?_
 exact tM))) λ_ e=>(by
 try dsimp only at e ⊢
 exact tL)
theorem tF62_1 {c d} {b:List G159} (a:okG27 c) (e:b.length+11<=500000000000):Tot (F62_1 c d b) (λr=>r.length<=b.length+11):=Xb (tF130 a) λ_ _=>Xb (tF131_1 a tI) λ_ _=>tL
theorem tF277:Tot (F277 ) (λr=>okG385 r):=Xd ⟨⟨(by show ByteArray.size _<=1000;decide)⟩,⟨(by show ByteArray.size _<=1000;decide)⟩,⟨(by show ByteArray.size _<=1000;decide)⟩,⟨(by show ByteArray.size _<=1000;decide)⟩,⟨(by show ByteArray.size _<=1000;decide)⟩,⟨(by show ByteArray.size _<=1000;decide)⟩,⟨(by show ByteArray.size _<=1000;decide)⟩,⟨(by show ByteArray.size _<=1000;decide)⟩,⟨(by show ByteArray.size _<=1000;decide)⟩⟩
theorem tJF205_2 {d:Int} {e:Bool} (i:e=false->1<=d/\d<=9):Tot (JF205_2 d e) (λr=>okG326 r.1/\True):=Xc (λ_=>Xd ⟨⟨by show ByteArray.size _<=1000;decide⟩,trivial⟩) (λc=>have q:=i c;Xb tF277 λ_ a=>Xb (t_gx (by rw[Xp (by omega) (by omega)];omega) (by rw[Xp (by omega) (by omega)];simp only[List.length_cons,List.length_nil];omega)) λf b=>(by
 have g:okG326 f:=by
  have:=b.1
  simp only[List.mem_cons,List.not_mem_nil,or_false]at this
  rcases this with h|h|h|h|h|h|h|h|h<;>subst h
  ·exact⟨a.a0.fK⟩
  ·exact⟨a.a1.fK⟩
  ·exact⟨a.a2.fK⟩
  ·exact⟨a.a3.fK⟩
  ·exact⟨a.a4.fK⟩
  ·exact⟨a.a5.fK⟩
  ·exact⟨a.a6.fK⟩
  ·exact⟨a.a7.fK⟩
  ·exact⟨a.a8.fK⟩
 exact Xd ⟨⟨g.fK⟩,trivial⟩))
theorem tF205 {a}:Tot (F205 a) (λr=>okG326 r.1/\True):=t_bd (λ_=>(tJF205_2 tW).mono tM) λ_=>(tJF205_2 tW).mono tM
theorem tF133 {d}:Tot (F133 d) (λ_=>True):=Xb (tF205) λ_ c=>(by
 obtain⟨b,a⟩:=c
 exact tL)
theorem tJF172_4 {a b c}:Tot (JF172_4 a b c) (λ_=>True):=t_be (λ_=>tL) λ_=>tL
theorem tJF172_19 {a:Int} {c b} (d:0<=a) (e:a<6):Tot (JF172_19 a c b) (λr=>match r with|.inl r=>True/\True/\(r.2.2=a+1/\a<6)|.inr (.inl r)=>True|.inr (.inr r)=>True/\True):=tL
theorem tJF172_23 {c} {a:Int} {d e b} (g:0<=a) (f:a<6):Tot (JF172_23 c a d e b) (λr=>match r with|.inl r=>True/\True/\(r.2.2=a+1/\a<6)|.inr (.inl r)=>True|.inr (.inr r)=>True/\True):=Xc (λ_=>tL) λ_=>t_bd (λ_=>(tJF172_19 tI tI).mono tM) λ_=>(tJF172_19 tI tI).mono tM
theorem tLF172_15 {d b c} {a:Int} (f:0<=a) (e:a<=6):Tot (LF172_15 d b c a) (λr=>match r with|.inl r=>True/\True/\(r.2.2=a+1/\a<6)|.inr (.inl r)=>True|.inr (.inr r)=>True/\True):=t_bd (λ_=>Xb (t_gxL tI tI) λ_ _=>t_bd (λ_=>(tJF172_23 tI tI).mono tM) λ_=>t_bd (λ_=>(tJF172_23 tI tI).mono tM) λ_=>t_bd (λ_=>(tJF172_23 tI tI).mono tM) λ_=>(tJF172_23 tI tI).mono tM) λ_=>tL
theorem tF172 {h}:Tot (F172 h) (λ_=>True):=Xc (λ_=>tL) λ_=>Xb (Xe (λ(c,d,b)=>b) 6 (by decide) (λ(c,d,b)=>True) (T:=tru) tB tB tZ (λ⟨c,d,b⟩ j e g=>(tLF172_15 e g).mono tM)) ((by
 rintro(⟨⟩|⟨i,f⟩) a
 ·try dsimp only at a ⊢
  exact tL
 ·try dsimp only at a ⊢
  exact tJF172_4))
theorem tJF83_5 {a b}:Tot (JF83_5 a b) (λ_=>True):=Xc (λ_=>tL) λ_=>Xb (tF172) λ_ _=>Xc (λ_=>tL) λ_=>tL
theorem tJF83_2 {b a}:Tot (JF83_2 b a) (λ_=>True):=Xc (λ_=>tL) λ_=>t_bd (λ_=>tJF83_5) λ_=>t_bd (λ_=>tJF83_5) λ_=>tJF83_5
theorem tF83 {v0}:Tot (F83 v0) (λ_=>True):=t_bd (λ_=>tJF83_2) λ_=>tJF83_2
theorem tF305 {a:G71} (b:a.fJ≠0):Tot (F305 a) (λ_=>True):=Xb (t_gq b) λc _=>Xd trivial
theorem tF256 {a:G71} (b:a.fJ≠0):Tot (F256 a) (λ_=>True):=Xb (tF305 b) λc _=>Xd trivial
theorem F181_zero {m:G71} (h:F83 m=some 0):1<=m.fJ/\m.fJ<=64/\1<=m.fI/\m.fI<=64:=by
 rcases cor h with⟨c,h⟩|⟨c,h⟩
 ·simp[JF83_2]at h
 ·unfold JF83_2 at h
  rcases cor h with⟨b,h⟩|⟨b,h⟩
  ·simp at h
  ·rcases cor h with⟨d,h⟩|⟨d,h⟩
   ·simp[JF83_5]at h
   ·rcases cor h with⟨a,h⟩|⟨a,h⟩
    ·simp[JF83_5]at h
    ·simp only[decide_eq_false_iff_not]at c b d a
     omega
theorem tF187 {a}:Tot (F187 a) (λ_=>True):=by
 unfold F187
 obtain⟨z,b,_⟩:=tF83 (v0:=a)
 rw[b]
 simp only[Option.bind_some]
 refine Xc (λc=>Xd trivial) λc=>?_
 have d:z=0:=by simpa using c
 subst d
 exact Xb (tF256 (by have:=F181_zero b;omega)) λe _=>Xd trivial
theorem tJF99_4 {a}:Tot (JF99_4 a) (λ_=>True):=t_bn (λ_=>tL) λ_=>t_bd (λ_=>tL) λ_=>tL
theorem tF99 {a} (b:okG75 a):Tot (F99 a) (λ_=>True):=Xb (tF187) λ_ _=>t_bn (λ_=>tL) λ_=>t_bd (λ_=>tL) λ_=>t_bd (λ_=>tJF99_4) λ_=>tJF99_4
theorem tJF134_5 {a b}:Tot (JF134_5 a b) (λ_=>True):=Xc (λ_=>tL) λ_=>tL
theorem tJF134_17 {a:Int} {b} (c:0<=a) (d:a<5):Tot (JF134_17 a b) (λr=>match r with|.inl r=>True/\(r.2=a+1/\a<5)|.inr r=>True):=tL
theorem tLF134_27 {c g e} {b:Int} (a:okG95 c) (h:0<=b) (i:b<=5):Tot (LF134_27 c g e b) (λr=>match r with|.inl r=>True/\(r.2=b+1/\b<5)|.inr r=>True):=t_bd (λ_=>have f:=(a.fR).le;t_bi (Xi (a.fR) tI tI) λ_ _ _=>Xc (λ_=>tL) λ_=>Xb (tF133) λ_ _=>t_bn (λ_=>tL) λ_=>Xb (Wv) λ_ _=>Xc (λ_=>tL) λ_=>t_bd (λ_=>t_bi (Xi (a.fR) tI tI) λ_ _ _=>tL) λ_=>tL) λ_=>have d:=(a.fR).le;tL
theorem tLF134_14 {h i k} {e:Int} (a:okG75 h) (o:0<=e) (m:e<=5):Tot (LF134_14 h i k e) (λr=>match r with|.inl r=>True/\(r.2=e+1/\e<5)|.inr r=>True):=t_bd (λ_=>have g:=(a.ff).le;t_bi (Xi (a.ff) tI tI) λ_ c _=>Xb (Xe (λ(d,b)=>b) 5 (by decide) (λ(d,b)=>True) (T:=tru) tB tB tZ (λ⟨d,b⟩ n l j=>(tLF134_27 c l j).mono tM)) λ_ _=>(tJF134_17 tI tI).mono tM) λ_=>have f:=(a.ff).le;tL
theorem tF134 {g d} (a:okG75 d):Tot (F134 g d) (λ_=>True):=Xb (tF99 a) λ_ _=>Xb (Xe (λ(c,b)=>b) 5 (by decide) (λ(c,b)=>True) (T:=tru) tB tB tZ (λ⟨c,b⟩ h e f=>(tLF134_14 a e f).mono tM)) λ_ _=>tJF134_5
theorem tLF131_2_11 {g h} {c:Int} {d:List G159} (a:okG27 g) (i:d.length+1<=500000000000) (k:0<=c) (j:c<=10):Tot (LF131_2_11 g h c d) (λr=>match r with|.inl r=>(r.1=c+1/\c<10)/\r.2.length<=d.length+1|.inr r=>r.length<=d.length+1):=t_bd (λ_=>have f:=(a.fc).le;t_bi (Xi (a.fc) tI tI) λ_ b _=>Xb (tF134 b) λ_ _=>Xb (Yb a tI) λ_ _=>tL) λ_=>have e:=(a.fc).le;tL
theorem tF131_2 {h i} {a:List G159} (e:okG27 h) (k:a.length+11<=500000000000):Tot (F131_2 h i a) (λr=>r.length<=a.length+11):=Xb (Xe (λ(b,c)=>b) 10 (by decide) (λ(b,c)=>(c.length:Int)<=a.length+0+1*b) (T:=λr=>r.length<=a.length+11) tB tB tZ (λ⟨b,c⟩ j f g=>(by
 try dsimp only at j f g ⊢
 refine(tLF131_2_11 e tI f g).mono ?_
 exact tM))) λ_ d=>(by
 try dsimp only at d ⊢
 exact tL)
theorem tJF63_1_5 {c d} {b:List G159} (a:okG27 c) (e:b.length+11<=500000000000):Tot (JF63_1_5 c d b) (λr=>r.length<=b.length+11):=Xb (tF131_2 a tI) λ_ _=>tL
theorem tJF63_1_21 {a:Int} {b:List G159} (c:b.length+0<=500000000000) (d:0<=a) (e:a<4):Tot (JF63_1_21 a b) (λr=>match r with|.inl r=>(r.1=a+1/\a<4)/\r.2.length<=b.length+0|.inr r=>r.length<=b.length+0):=tL
theorem tLF63_1_31 {d h i} {a:Int} {c:List G159} (b:okG68 d) (g:okG27 h) (j:c.length+1<=500000000000) (l:0<=a) (k:a<=5):Tot (LF63_1_31 d h i a c) (λr=>match r with|.inl r=>(r.1=a+1/\a<5)/\r.2.length<=c.length+1|.inr r=>r.length<=c.length+1):=t_bd (λ_=>have e:=(b.fx).le;t_bi (Xi (b.fx) tI tI) λ_ _ _=>Xb (tF133) λ_ _=>Xb (Yb g tI) λ_ _=>tL) λ_=>have f:=(b.fx).le;tL
theorem tLF63_1_18 {k n} {b:Int} {a:List G159} (c:okG27 k) (o:a.length+6<=500000000000) (q:0<=b) (p:b<=4):Tot (LF63_1_18 k n b a) (λr=>match r with|.inl r=>(r.1=b+1/\b<4)/\r.2.length<=a.length+6|.inr r=>r.length<=a.length+6):=t_bd (λ_=>have h:=(c.fi).le;t_bi (Xi (c.fi) tI tI) λ_ g _=>Xb (Xe (λ(d,e)=>d) 5 (by decide) (λ(d,e)=>(e.length:Int)<=a.length+0+1*d) (T:=λr=>r.length<=a.length+6) tB tB tZ (λ⟨d,e⟩ m l j=>(by
 try dsimp only at m l j ⊢
 refine(tLF63_1_31 g c tI l j).mono ?_
 exact tM))) λ_ f=>(by
 try dsimp only at f ⊢
 exact(tJF63_1_21 tI tI tI).mono tM)) λ_=>have i:=(c.fi).le;tL
theorem tF63_1 {h i} {d:List G159} (e:okG27 h) (k:d.length+41<=500000000000):Tot (F63_1 h i d) (λr=>r.length<=d.length+41):=Xb (Xe (λ(a,b)=>a) 4 (by decide) (λ(a,b)=>(b.length:Int)<=d.length+0+6*a) (T:=λr=>r.length<=d.length+30) tB tB tZ (λ⟨a,b⟩ j f g=>(by
 try dsimp only at j f g ⊢
 refine(tLF63_1_18 e tI f g).mono ?_
 exact tM))) λ_ c=>(by
 try dsimp only at c ⊢
 exact(tJF63_1_5 e tI).mono tM)
theorem tJF78_2 {a}:Tot (JF78_2 a) (λ_=>True):=Xc (λ_=>tL) λ_=>tL
theorem tF78 {v0}:Tot (F78 v0) (λ_=>True):=t_bd (λ_=>tJF78_2) λ_=>tJF78_2
theorem tJF136_11 {a}:Tot (JF136_11 a) (λ_=>True):=tL
theorem tL18 (v:Int) (c:-100000<=v) (d:v<=100000):Tot (Xg (λ(a:Int)=>LF136_18 a) v) (λr=>-7<=r/\r<=100000):=Xs (λs=>-100000<=s/\s<=100000) (λs=>(100000-s).toNat) _ (λs b=>(by
 unfold LF136_18
 cases hc:decide (s<(-7))with
 |true=>
  have:=of_decide_eq_true hc
  left
  exact⟨s+12,by rw[Xp (by omega) (by omega)];rfl,⟨by omega,by omega⟩,by omega⟩
 |false=>
  have:=of_decide_eq_false hc
  right
  exact⟨s,rfl,by omega,b.2⟩)) ⟨c,d⟩ (by omega)
theorem tL26 (v:Int) (c:-100000<=v) (d:v<=100000):Tot (Xg (λ(a:Int)=>LF136_26 a) v) (λr=>-100000<=r/\r<=7):=Xs (λs=>-100000<=s/\s<=100000) (λs=>(100000+s).toNat) _ (λs b=>(by
 unfold LF136_26
 cases hc:decide (s>7)with
 |true=>
  have:=of_decide_eq_true hc
  left
  exact⟨s-12,by rw[Xp (by omega) (by omega)];rfl,⟨by omega,by omega⟩,by omega⟩
 |false=>
  have:=of_decide_eq_false hc
  right
  exact⟨s,rfl,b.1,by omega⟩)) ⟨c,d⟩ (by omega)
theorem F146_zero {v:Int} (h:F78 v=some 0):-7<=v/\v<=7:=by
 unfold F78 JF78_2 at h
 cases h1:decide (v<(-7))with
 |true=>rw[h1]at h;have:=Option.some.inj h;omega
 |false=>
  rw[h1]at h
  cases h2:decide (v>7)with
  |true=>rw[h2]at h;have:=Option.some.inj h;omega
  |false=>have a:=of_decide_eq_false h1;have b:=of_decide_eq_false h2;omega
theorem tJF136_6w {d:Int} {a:G65} {b:Bool} (l:-7<=d/\d<=7) (h:b=false->(-77<=a.fak/\a.fak<=77)/\-140<=a.fac/\a.fac<=140):Tot (JF136_6 d a b) λ_=>True:=Xc (λc=>Xd trivial) λc=>have q:=h c;(by
 have i:wi (7*a.fac)=7*a.fac:=Xp (by omega) (by omega)
 have k:wi (12*a.fak)=12*a.fak:=Xp (by omega) (by omega)
 rw[i,k,Xp (n:=7*a.fac-12*a.fak) (by omega) (by omega),Xp (by omega) (by omega)]
 refine Xb (tL26 _ (by omega) (by omega)) λe g=>?_
 show Tot (JF136_9 e) _
 refine Xb (tL18 _ (by omega) (by omega)) λj f=>?_
 exact tJF136_11)
theorem tF136 {f j}:Tot (F136 f j) (λ_=>True):=by
 unfold F136
 obtain⟨z,i,_⟩:=tF78 (v0:=f)
 rw[i]
 simp only[Option.bind_some]
 refine Xc (λc=>Xd trivial) λc=>?_
 have k:z=0:=by simpa using c
 subst k
 have a:=F146_zero i
 refine Xc (λd=>tJF136_6w a (by intro h;cases h)) λd=>?_
 refine Xc (λe=>tJF136_6w a (by intro h;cases h)) λe=>?_
 refine Xc (λb=>tJF136_6w a (by intro h;cases h)) λb=>?_
 refine tJF136_6w a λg=>?_
 replace d:=of_decide_eq_false d
 replace e:=of_decide_eq_false e
 replace b:=of_decide_eq_false b
 replace g:=of_decide_eq_false g
 omega
theorem tJF135_1_10 {a}:Tot (JF135_1_10 a) (λ_=>True):=tL
theorem tJF135_1_21 {a:Int} {b} (c:0<=a) (d:a<4):Tot (JF135_1_21 a b) (λr=>match r with|.inl r=>True/\(r.2=a+1/\a<4)|.inr r=>True):=tL
theorem tJF135_1_25 {e b} {a:Int} {d c} (g:okG75 e) (f:okG68 b) (i:0<=a) (h:a<4):Tot (Wp e b a d c) (λr=>match r with|.inl r=>True/\(r.2=a+1/\a<4)|.inr r=>True):=Xc (λ_=>Xb (tF136) λ_ _=>(tJF135_1_21 tI tI).mono tM) λ_=>(tJF135_1_21 tI tI).mono tM
theorem tLF135_1_18 {h i g} {a:Int} (c:okG27 h) (d:okG75 i) (k:0<=a) (j:a<=4):Tot (LF135_1_18 h i g a) (λr=>match r with|.inl r=>True/\(r.2=a+1/\a<4)|.inr r=>True):=t_bd (λ_=>have e:=(c.fi).le;t_bi (Xi (c.fi) tI tI) λ_ b _=>Xc (λ_=>(tJF135_1_25 d b tI tI).mono tM) λ_=>(tJF135_1_25 d b tI tI).mono tM) λ_=>have f:=(c.fi).le;tL
theorem tJF135_1_8 {e f g} (c:okG27 e) (d:okG75 f):Tot (Uo e f g) (λ_=>True):=Xb (Xe (λ(b,a)=>a) 4 (by decide) (λ(b,a)=>True) (T:=tru) tB tB tZ (λ⟨b,a⟩ j h i=>(tLF135_1_18 c d h i).mono tM)) λ_ _=>tJF135_1_10
theorem tF135_1 {f d c g} {e:List G159} (a:okG75 d) (b:okG27 c) (h:e.length+0<=500000000000):Tot (F135_1 f d c g e) (λ_=>True):=Xb (tF99 a) λ_ _=>t_bn (λ_=>tJF135_1_8 b a) λ_=>Xb (Wv) λ_ _=>tJF135_1_8 b a
theorem tLF131_3_11 {g h} {c:Int} {d:List G159} (a:okG27 g) (i:d.length+1<=500000000000) (k:0<=c) (j:c<=10):Tot (Qc g h c d) (λr=>match r with|.inl r=>(r.1=c+1/\c<10)/\r.2.length<=d.length+1|.inr r=>r.length<=d.length+1):=t_bd (λ_=>have e:=(a.fc).le;t_bi (Xi (a.fc) tI tI) λ_ b _=>Xb (tF135_1 b a tI) λ_ _=>Xb (Yb a tI) λ_ _=>tL) λ_=>have f:=(a.fc).le;tL
theorem tF131_3 {h i} {a:List G159} (e:okG27 h) (k:a.length+11<=500000000000):Tot (F131_3 h i a) (λr=>r.length<=a.length+11):=Xb (Xe (λ(b,c)=>b) 10 (by decide) (λ(b,c)=>(c.length:Int)<=a.length+0+1*b) (T:=λr=>r.length<=a.length+11) tB tB tZ (λ⟨b,c⟩ j f g=>(by
 try dsimp only at j f g ⊢
 refine(tLF131_3_11 e tI f g).mono ?_
 exact tM))) λ_ d=>(by
 try dsimp only at d ⊢
 exact tL)
theorem tF64_1 {c d} {a:List G159} (b:okG27 c) (e:a.length+11<=500000000000):Tot (F64_1 c d a) (λr=>r.length<=a.length+11):=Xb (tF131_3 b tI) λ_ _=>tL
theorem tJF215_3 {a}:Tot (JF215_3 a) (λ_=>True):=Xc (λ_=>tL) λ_=>tL
theorem tF215 {b a}:Tot (F215 b a) (λ_=>True):=t_bd (λ_=>tJF215_3) λ_=>tJF215_3
theorem tJF214_1:Tot (JF214_1 ) (λ_=>True):=tL
theorem tLF214_8 {e:Sl Int} {b:Int} (a:(OkSl (λ_=>True) 1000) e) (g:0<=b) (f:b<=1000):Tot (LF214_8 e b) (λr=>match r with|.inl r=>(r=b+1/\b<1000)|.inr (.inl r)=>True|.inr (.inr r)=>True):=t_bd (λ_=>have d:=(a).le;t_bi (Xi a tI tI) λ_ _ _=>t_bn (λ_=>tL) λ_=>tL) λ_=>have c:=(a).le;tL
theorem tF214 {d:Sl Int} (b:(OkSl (λ_=>True) 1000) d):Tot (F214 d) (λ_=>True):=Xb (Xe (λc=>c) 1000 (by decide) (λc=>True) (T:=tru) tB tB tZ (λ_ _ e f=>(tLF214_8 b e f).mono tM)) ((by
 rintro(g|⟨⟩) a
 ·try dsimp only at a ⊢
  exact tL
 ·try dsimp only at a ⊢
  exact tJF214_1))
theorem tF216 {a}:Tot (F216 a) (λ_=>True):=t_bd (λ_=>tL) λ_=>tL
theorem tF284 {a}:Tot (F284 a) (λ_=>True):=t_bd (λ_=>tL) λ_=>tL
theorem tJF218_6 {a d b} (c:okG147 a):Tot (JF218_6 a d b) (λr=>okG147 r):=t_bn (λ_=>Xb (tF284) λ_ _=>Xd ⟨OkSl.nil,OkSl.nil,OkSl.nil⟩) λ_=>Xd ⟨OkSl.nil,OkSl.nil,OkSl.nil⟩
theorem tJF218_2 {b c} (a:okG147 b):Tot (JF218_2 b c) (λr=>okG147 r):=Xc (λ_=>Xd ⟨(a.fD).mono,(a.fS).mono,(a.fv).mono⟩) λ_=>t_bn (λ_=>(tJF218_6 a).mono tM) λ_=>(tJF218_6 a).mono tM
theorem tF218 {b} (a:okG147 b):Tot (F218 b) (λr=>okG147 r):=t_be (λ_=>(tJF218_2 a).mono tM) λ_=>Xb (tF216) λ_ _=>(tJF218_2 a).mono tM
theorem tJF281_3:Tot (JF281_3 ) (λ_=>True):=tL
theorem tLF281_9 {g:Sl G182} {e:Sl G182} {b:Int} (a:(OkSl (λ_=>True) 1000) g) (f:(OkSl (λ_=>True) 1000) e) (h:ln g=ln e) (j:0<=b) (i:b<=1000):Tot (LF281_9 g e b) (λr=>match r with|.inl r=>(r=b+1/\b<1000)|.inr (.inl r)=>True|.inr (.inr r)=>True):=t_bd (λ_=>have c:=(a).le;t_bi (Xi a tI tI) λ_ _ _=>t_bi (Xi f tI tI) λ_ _ _=>Xc (λ_=>tL) λ_=>tL) λ_=>have d:=(a).le;tL
theorem tF281 {i:Sl G182} {h:Sl G182} (b:(OkSl (λ_=>True) 1000) i) (a:(OkSl (λ_=>True) 1000) h):Tot (F281 i h) (λ_=>True):=t_bn (λ_=>have g:=(b).le;have e:=(a).le;tL) λ_=>have d:=(b).le;have f:=(a).le;Xb (Xe (λj=>j) 1000 (by decide) (λj=>True) (T:=tru) tB tB tZ (λ_ _ k l=>(tLF281_9 b a tI k l).mono tM)) ((by
 rintro(⟨⟩|⟨⟩) c
 ·try dsimp only at c ⊢
  exact tL
 ·try dsimp only at c ⊢
  exact tJF281_3))
theorem tJF282_3:Tot (JF282_3 ) (λ_=>True):=tL
theorem tLF282_9 {g:Sl G245} {d:Sl G245} {b:Int} (a:(OkSl (λ_=>True) 1000) g) (e:(OkSl (λ_=>True) 1000) d) (h:ln g=ln d) (j:0<=b) (i:b<=1000):Tot (LF282_9 g d b) (λr=>match r with|.inl r=>(r=b+1/\b<1000)|.inr (.inl r)=>True|.inr (.inr r)=>True):=t_bd (λ_=>have c:=(a).le;t_bi (Xi a tI tI) λ_ _ _=>t_bi (Xi e tI tI) λ_ _ _=>Xc (λ_=>tL) λ_=>tL) λ_=>have f:=(a).le;tL
theorem tF282 {i:Sl G245} {h:Sl G245} (b:(OkSl (λ_=>True) 1000) i) (a:(OkSl (λ_=>True) 1000) h):Tot (F282 i h) (λ_=>True):=t_bn (λ_=>have f:=(b).le;have g:=(a).le;tL) λ_=>have e:=(b).le;have d:=(a).le;Xb (Xe (λj=>j) 1000 (by decide) (λj=>True) (T:=tru) tB tB tZ (λ_ _ k l=>(tLF282_9 b a tI k l).mono tM)) ((by
 rintro(⟨⟩|⟨⟩) c
 ·try dsimp only at c ⊢
  exact tL
 ·try dsimp only at c ⊢
  exact tJF282_3))
theorem tJF283_3:Tot (JF283_3 ) (λ_=>True):=tL
theorem tLF283_9 {g:Sl G171} {d:Sl G171} {b:Int} (a:(OkSl okG171 1000) g) (e:(OkSl okG171 1000) d) (h:ln g=ln d) (j:0<=b) (i:b<=1000):Tot (LF283_9 g d b) (λr=>match r with|.inl r=>(r=b+1/\b<1000)|.inr (.inl r)=>True|.inr (.inr r)=>True):=t_bd (λ_=>have c:=(a).le;t_bi (Xi a tI tI) λ_ _ _=>t_bi (Xi e tI tI) λ_ _ _=>Xc (λ_=>tL) λ_=>tL) λ_=>have f:=(a).le;tL
theorem tF283 {i:Sl G171} {h:Sl G171} (b:(OkSl okG171 1000) i) (a:(OkSl okG171 1000) h):Tot (F283 i h) (λ_=>True):=t_bn (λ_=>have e:=(b).le;have d:=(a).le;tL) λ_=>have f:=(b).le;have g:=(a).le;Xb (Xe (λj=>j) 1000 (by decide) (λj=>True) (T:=tru) tB tB tZ (λ_ _ k l=>(tLF283_9 b a tI k l).mono tM)) ((by
 rintro(⟨⟩|⟨⟩) c
 ·try dsimp only at c ⊢
  exact tL
 ·try dsimp only at c ⊢
  exact tJF283_3))
theorem Wd {a}:Tot (Wk a) (λ_=>True):=tL
theorem tF217 {d c} (b:okG147 d) (a:okG147 c):Tot (F217 d c) (λ_=>True):=t_be (λ_=>Xc (λ_=>t_be (λ_=>t_be (λ_=>t_be (λ_=>t_be (λ_=>t_be (λ_=>Xb (tF281 (b.fD).mono (a.fD).mono) λ_ _=>Xc (λ_=>Xb (tF282 (b.fS).mono (a.fS).mono) λ_ _=>Xc (λ_=>Xb (tF283 (b.fv).mono (a.fv).mono) λ_ _=>Wd) λ_=>Wd) λ_=>Wd) λ_=>Wd) λ_=>Wd) λ_=>Wd) λ_=>Wd) λ_=>Wd) λ_=>Wd) λ_=>Wd
theorem tJF219_2 {a}:Tot (Vs a) (λ_=>True):=Xc (λ_=>tL) λ_=>tL
theorem tF219 {v0}:Tot (F219 v0) (λ_=>True):=t_bd (λ_=>tJF219_2) λ_=>t_bd (λ_=>tJF219_2) λ_=>t_bd (λ_=>tJF219_2) λ_=>tJF219_2
theorem tF243:Tot (F243 ) (λ_=>True):=tL
theorem tF169 {a:G80} (b:0<=a.fW/\a.fW<=6):Tot (F169 a) (λ_=>True):=Xb tF243 λ_ _=>Xb (t_gx b.1 (by simp only[List.length_cons,List.length_nil];omega)) λc _=>Xd trivial
theorem tJF168_7 {a}:Tot (JF168_7 a) (λ_=>True):=Xc (λ_=>tL) λ_=>tL
theorem tJF168_2 {a:G80} {b:Bool} (d:b=false->0<=a.fW/\a.fW<=6):Tot (Vt a b) (λ_=>True):=Xc (λc=>Xd trivial) λc=>Xb (tF169 (d c)) λ_ _=>Xc (λ_=>tJF168_7) λ_=>tJF168_7
theorem tF168 {v0}:Tot (F168 v0) (λ_=>True):=t_bd (λc=>tJF168_2 (by intro h;cases h)) λc=>t_bd (λa=>tJF168_2 (by intro h;cases h)) λ_=>(by
 have q:0<=v0.fW/\v0.fW<=6:=by omega
 refine Xc (λc=>tJF168_2 (λ_=>q)) λc=>?_
 refine Xc (λc=>tJF168_2 (λ_=>q)) λc=>?_
 refine Xc (λc=>tJF168_2 (λ_=>q)) λc=>?_
 exact tJF168_2 (λ_=>q))
theorem F155_zero {p:G80} (h:F168 p=some 0):0<=p.fW/\p.fW<=6:=by
 rcases cor h with⟨c,h⟩|⟨c,h⟩
 ·simp[Vt]at h
 ·rcases cor h with⟨a,h⟩|⟨a,h⟩
  ·simp[Vt]at h
  ·simp only[decide_eq_false_iff_not]at c a
   omega
theorem tF77 {a}:Tot (F77 a) (λ_=>True):=by
 unfold F77
 obtain⟨z,b,_⟩:=tF168 (v0:=a)
 rw[b]
 simp only[Option.bind_some]
 refine Xc (λc=>Xd trivial) λc=>?_
 have d:z=0:=by simpa using c
 subst d
 exact Xb (tF169 (F155_zero b)) λe _=>Xd trivial
theorem tJF260_4 {a b}:Tot (JF260_4 a b) (λ_=>True):=Xc (λ_=>tL) λ_=>tL
theorem tF260 {a}:Tot (F260 a) (λ_=>True):=Xb (tF77) λ_ _=>t_bn (λ_=>tJF260_4) λ_=>t_bd (λ_=>tJF260_4) λ_=>tJF260_4
theorem tF285 {a}:Tot (F285 a) (λ_=>True):=Xb (tF260) λ_ _=>Xb (tF215) λ_ _=>Xb (tF214 OkSl.lit) λ_ _=>tL
theorem tJF220_3:Tot (JF220_3 ) (λ_=>True):=tL
theorem tLF220_11 {e:Sl G182} {f} {b:Int} (a:(OkSl (λ_=>True) 1000) e) (h:0<=b) (g:b<=1000):Tot (LF220_11 e f b) (λr=>match r with|.inl r=>True/\(r.2=b+1/\b<1000)|.inr (.inl r)=>True|.inr (.inr r)=>True):=t_bd (λ_=>have d:=(a).le;t_bi (Xi a tI tI) λ_ _ _=>Xb (tF285) λ_ _=>t_bn (λ_=>tL) λ_=>Xb (tF260) λ_ _=>t_bd (λ_=>tL) λ_=>tL) λ_=>have c:=(a).le;tL
theorem tF220 {f:Sl G182} (a:(OkSl (λ_=>True) 1000) f):Tot (F220 f) (λ_=>True):=t_be (λ_=>have d:=(a).le;tL) λ_=>have e:=(a).le;t_bd (λ_=>tL) λ_=>Xb (Xe (λ(g,c)=>c) 1000 (by decide) (λ(g,c)=>True) (T:=tru) tB tB tZ (λ⟨g,c⟩ k h i=>(tLF220_11 a h i).mono tM)) ((by
 rintro(j|⟨⟩) b
 ·try dsimp only at b ⊢
  exact tL
 ·try dsimp only at b ⊢
  exact tJF220_3))
theorem tJF193_2:Tot (JF193_2 ) (λ_=>True):=tL
theorem tJF193_17 {a:Int} {b} (c:0<=a) (d:a<1000):Tot (JF193_17 a b) (λr=>match r with|.inl r=>(r=a+1/\a<1000)|.inr (.inl r)=>True|.inr (.inr r)=>True):=Xc (λ_=>tL) λ_=>tL
theorem tLF193_9 {e:Sl G245} {b:Int} (a:(OkSl (λ_=>True) 1000) e) (g:0<=b) (f:b<=1000):Tot (LF193_9 e b) (λr=>match r with|.inl r=>(r=b+1/\b<1000)|.inr (.inl r)=>True|.inr (.inr r)=>True):=t_bd (λ_=>have d:=(a).le;t_bi (Xi a tI tI) λ_ _ _=>Xb (tF260) λ_ _=>t_bn (λ_=>tL) λ_=>t_bd (λ_=>(tJF193_17 tI tI).mono tM) λ_=>(tJF193_17 tI tI).mono tM) λ_=>have c:=(a).le;tL
theorem tF193 {f:Sl G245} (a:(OkSl (λ_=>True) 1000) f):Tot (F193 f) (λ_=>True):=t_bd (λ_=>have c:=(a).le;tL) λ_=>have d:=(a).le;Xb (Xe (λe=>e) 1000 (by decide) (λe=>True) (T:=tru) tB tB tZ (λ_ _ g h=>(tLF193_9 a g h).mono tM)) ((by
 rintro(i|⟨⟩) b
 ·try dsimp only at b ⊢
  exact tL
 ·try dsimp only at b ⊢
  exact tJF193_2))
theorem tJF286_7 {a}:Tot (JF286_7 a) (λ_=>True):=Xc (λ_=>tL) λ_=>tL
theorem tJF286_5 {a} (b:okG171 a):Tot (JF286_5 a) (λ_=>True):=t_be (λ_=>tJF286_7) λ_=>tJF286_7
theorem tJF286_18 {a:Int} {b} (c:0<=a) (d:a<1000):Tot (JF286_18 a b) (λr=>match r with|.inl r=>(r=a+1/\a<1000)|.inr (.inl r)=>True|.inr (.inr r)=>True):=Xc (λ_=>tL) λ_=>tL
theorem tLF286_15 {d} {a:Int} (c:okG171 d) (f:0<=a) (e:a<=1000):Tot (LF286_15 d a) (λr=>match r with|.inl r=>(r=a+1/\a<1000)|.inr (.inl r)=>True|.inr (.inr r)=>True):=t_bd (λ_=>have b:=(c.fP).le;Xb (t_gch tI tI) λ_ _=>t_bd (λ_=>(tJF286_18 tI tI).mono tM) λ_=>Xb (t_gch tI tI) λ_ _=>(tJF286_18 tI tI).mono tM) λ_=>tL
theorem tJF286_2 {d f} (c:okG171 d):Tot (JF286_2 d f) (λ_=>True):=Xc (λ_=>tL) λ_=>t_bd (λ_=>tL) λ_=>Xb (Xe (λb=>b) 1000 (by decide) (λb=>True) (T:=tru) tB tB tZ (λ_ _ e g=>(tLF286_15 c e g).mono tM)) ((by
 rintro(⟨⟩|⟨⟩) a
 ·try dsimp only at a ⊢
  exact tL
 ·try dsimp only at a ⊢
  exact tJF286_5 c))
theorem tF286 {b} (a:okG171 b):Tot (F286 b) (λ_=>True):=t_bd (λ_=>tJF286_2 a) λ_=>tJF286_2 a
theorem tF287 {a} (b:okG171 a):Tot (F287 a) (λ_=>True):=tL
theorem tJF221_4 {a}:Tot (JF221_4 a) (λ_=>True):=Xc (λ_=>tL) λ_=>tL
theorem tJF221_2 {e:Sl G171} (a:(OkSl okG171 1000) e):Tot (JF221_2 e) (λ_=>True):=t_bd (λ_=>have d:=(a).le;t_bi (Xi a tI tI) λ_ c _=>Xb (tF287 c) λ_ _=>tJF221_4) λ_=>have b:=(a).le;tJF221_4
theorem tLF221_17 {f:Sl G171} {a:Int} (b:(OkSl okG171 1000) f) (h:0<=a) (g:a<=1000):Tot (LF221_17 f a) (λr=>match r with|.inl r=>(r=a+1/\a<1000)|.inr (.inl r)=>True|.inr (.inr r)=>True):=t_bd (λ_=>have d:=(b).le;t_bi (Xi b tI tI) λ_ c _=>Xb (tF286 c) λ_ _=>t_bn (λ_=>tL) λ_=>tL) λ_=>have e:=(b).le;tL
theorem tF221 {f:Sl G171} (a:(OkSl okG171 1000) f):Tot (F221 f) (λ_=>True):=t_bd (λ_=>have e:=(a).le;tL) λ_=>have d:=(a).le;Xb (Xe (λc=>c) 1000 (by decide) (λc=>True) (T:=tru) tB tB tZ (λ_ _ g i=>(tLF221_17 a g i).mono tM)) ((by
 rintro(h|⟨⟩) b
 ·try dsimp only at b ⊢
  exact tL
 ·try dsimp only at b ⊢
  exact tJF221_2 a))
theorem tJF142_19 {a} (b:okG147 a):Tot (JF142_19 a) (λ_=>True):=Xb (tF215) λ_ _=>Xb (tF215) λ_ _=>Xb (tF215) λ_ _=>Xb (tF215) λ_ _=>Xb (tF215) λ_ _=>Xb (tF214 OkSl.lit) λ_ _=>tL
theorem tJF142_17 {c b} (a:okG147 c):Tot (JF142_17 c b) (λ_=>True):=Xc (λ_=>tL) λ_=>t_be (λ_=>Xb (tF220 (a.fD).mono) λ_ _=>Xb (tF193 (a.fS).mono) λ_ _=>Xb (tF221 (a.fv).mono) λ_ _=>Xb (tF214 OkSl.lit) λ_ _=>t_bn (λ_=>tL) λ_=>tJF142_19 a) λ_=>tJF142_19 a
theorem tF142 {c} (a:okG147 c):Tot (F142 c) (λ_=>True):=Xb (tF215) λ_ _=>Xb (tF215) λ_ _=>Xb (tF214 OkSl.lit) λ_ _=>t_bn (λ_=>tL) λ_=>Xb (tF216) λ_ _=>Xc (λ_=>tL) λ_=>Xb (tF218 a) λ_ b=>Xb (tF217 a b) λ_ _=>Xc (λ_=>tL) λ_=>t_bn (λ_=>Xb (tF219) λ_ _=>tJF142_17 a) λ_=>tJF142_17 a
theorem tF207 {b} (a:okG147 b):Tot (F207 b) (λ_=>True):=Xb (tF142 a) λ_ _=>tL
theorem tJF280_1_1:Tot (JF280_1_1 ) (λ_=>True):=tL
theorem tLF280_1_8 {f:Sl G147} {b:Int} (a:(OkSl okG147 1000) f) (h:0<=b) (g:b<=1000):Tot (LF280_1_8 f b) (λr=>match r with|.inl r=>(r=b+1/\b<1000)|.inr (.inl r)=>True|.inr (.inr r)=>True):=t_bd (λ_=>have e:=(a).le;t_bi (Xi a tI tI) λ_ c _=>Xb (tF207 c) λ_ _=>Xc (λ_=>tL) λ_=>tL) λ_=>have d:=(a).le;tL
theorem tF280_1 {d:Sl G147} (b:(OkSl okG147 1000) d):Tot (F280_1 d) (λ_=>True):=Xb (Xe (λc=>c) 1000 (by decide) (λc=>True) (T:=tru) tB tB tZ (λ_ _ e f=>(tLF280_1_8 b e f).mono tM)) ((by
 rintro(g|⟨⟩) a
 ·try dsimp only at a ⊢
  exact tL
 ·try dsimp only at a ⊢
  exact tJF280_1_1))
theorem tF212_1 {b:Sl G147} (a:(OkSl okG147 1000) b):Tot (F212_1 b) (λ_=>True):=Xb (tF280_1 a) λ_ _=>tL
theorem tF306 {d} (a:okG100 d):Tot (F306 d) (λ_=>True):=t_bd (λ_=>have b:=(a.fg).le;t_bi (Xi (a.fg) tI tI) λ_ _ _=>tL) λ_=>have c:=(a.fg).le;tL
theorem tJF336_4 {a}:Tot (JF336_4 a) (λ_=>True):=tL
theorem tF336 {b:G142} (d:-1<=b.fA/\b.fA<=8/\b.fF<=3):Tot (F336 b) (λ_=>True):=by
 unfold F336
 refine Xb (t_gshr (by rw[Xp (by omega) (by omega)];omega)) λh _=>?_
 refine Xb (R:=λ_=>True) (Xs (λ(_,_,a)=>0<=a/\a<=100) (λ(_,_,a)=>(100-a).toNat) _ (λs c=>?_) ⟨by omega,by omega⟩ (by dsimp only;omega)) λo _=>tJF336_4
 obtain⟨f,g,a⟩:=s
 dsimp only at c ⊢
 unfold LF336_13
 cases hc:decide (a<b.fF)with
 |true=>
  have:=of_decide_eq_true hc
  left
  have e:=Xp (n:=a+1) (by omega) (by omega)
  exact⟨_,rfl,⟨by show 0<=wi (a+1);omega,by show wi (a+1)<=100;omega⟩,by show(100-wi (a+1)).toNat<(100-a).toNat;omega⟩
 |false=>right;exact⟨_,rfl,trivial⟩
theorem F42_zero {v:G142} (h:F219 v=some 0):-1<=v.fA/\v.fA<=8/\v.fF<=3:=by
 rcases cor h with⟨c,h⟩|⟨c,h⟩
 ·simp[Vs]at h
 ·rcases cor h with⟨b,h⟩|⟨b,h⟩
  ·simp[Vs]at h
  ·rcases cor h with⟨d,h⟩|⟨d,h⟩
   ·simp[Vs]at h
   ·unfold Vs at h
    rcases cor h with⟨a,h⟩|⟨a,h⟩
    ·simp at h
    ·simp only[decide_eq_false_iff_not]at c b d a
     omega
theorem tF330 {a}:Tot (F330 a) (λ_=>True):=by
 unfold F330
 obtain⟨z,b,_⟩:=tF219 (v0:=a)
 rw[b]
 simp only[Option.bind_some]
 refine Xc (λc=>Xd trivial) λc=>?_
 have d:z=0:=by simpa using c
 subst d
 exact Xb (tF336 (F42_zero b)) λe _=>Xd trivial
theorem tJF325_4 {b a d} (c:okG147 a):Tot (JF325_4 b a d) (λ_=>True):=Xc (λ_=>tL) λ_=>Xb (tF330) λ_ _=>tL
theorem tF325 {b} (a:okG147 b):Tot (F325 b) (λ_=>True):=Xb (tF142 a) λ_ _=>t_bn (λ_=>tJF325_4 a) λ_=>tJF325_4 a
theorem tF318 {j:Sl G147} (d:(OkSl okG147 1000) j):Tot (F318 j) (λr=>ln r<=1000):=t_be (λ_=>Xb (R:=λ_=>True) (Xs (λs=>s=0) (λ_=>0) (λ_=>True) (λ_ u=>(by
 subst u
 right
 refine⟨(),?_,trivial⟩
 unfold LF318_10
 have e:decide ((0:Int)<ln j)=false:=decide_eq_false (by omega)
 rw[e]
 rfl)) rfl (by decide)) λ_ _=>(by
 show Tot JF318_4 _
 unfold JF318_4
 exact Xd (show(0:Int)<=1000 by decide))) (λ_=>have w:=d.le;Xb (t_gmk (by omega) (by omega) (by decide)) λh _=>Xb (Xe (λ(a,_)=>a) 1000 (by decide) (λ(_,f)=>f.length=h) (T:=λr=>r.length=h) (by (try dsimp only);omega) (by (try dsimp only);omega) (by (try dsimp only);simp) (λ⟨a,f⟩ i q n=>(by
 try dsimp only at i q n ⊢
 unfold LF318_25
 refine t_bd (λm=>?_) (λm=>?_)
 ·refine Xb (Xi d (by omega) (by omega)) λo c=>?_
  refine Xb (tF325 c.1) λt k=>?_
  refine Xb (t_gin (by omega) (by omega)) λl _=>?_
  refine Xb (t_gset (by omega) (by omega)) λv g=>?_
  exact Xd ⟨g.2.trans i,Xp (by omega) (by omega),by show a<1000;omega⟩
 ·exact Xd i))) λb p=>(by
 show Tot (JF318_17 h b) _
 unfold JF318_17
 refine Xb (t_gfz p) λ_ _=>?_
 exact Xd (show((b.length:Nat):Int)<=1000 by omega)))
theorem tF337 {b a}:Tot (F337 b a) (λ_=>True):=t_bd (λ_=>tL) λ_=>tL
def okT (n:Int) (t:G425):Prop:=(1<=t.fap/\t.fap<=32)/\(1<=t.far/\t.far<=32)/\0<=t.fav/\1<=t.fI/\t.fav+t.fI<=n
theorem badT_ok {n:Int} (g:0<=n/\n<=128) {t:G425} (h:badT n ⟨t.fav,t.fI,t.fap,t.far⟩=false):okT n t:=by
 unfold badT at h
 simp only[Bool.or_eq_false_iff,decide_eq_false_iff_not,Bool.not_eq_false',ratioT,decide_eq_true_eq]at h
 obtain⟨⟨⟨⟨⟨⟨a,b⟩,c⟩,d⟩,e⟩,f⟩,_⟩:=h
 unfold RowKit.wrap64 at d
 exact⟨e,f,by omega,by omega,by omega⟩
theorem if3 {b q e:Bool} {x:Int} (h:(if b then 2 else if q then 25 else if e then x else 21)=0):b=false/\e=true/\x=0:=by
 cases b<;>cases q<;>cases e<;>simp at h ⊢
 exact h
theorem goT_ok {n:Int} (b:0<=n/\n<=128):∀ (l:List G425) (p:Option Tp) (S:List Tp),goT n p (l.map λt=>⟨t.fav,t.fI,t.fap,t.far⟩) S=0->∀ t∈l,okT n t
 |[],_,_,_,t,a=>by cases a
 |x::l,p,S,h,t,a=>by
  rw[List.map_cons,goT.eq_def]at h
  simp only at h
  obtain⟨c,e,d⟩:=if3 h
  rcases List.mem_cons.1 a with rfl|a
  ·exact badT_ok b c
  ·exact goT_ok b l _ _ d t a
theorem tcheck_ok {l:List G425} {n:Int} (h:tcheck (l.map λt=>⟨t.fav,t.fI,t.fap,t.far⟩) n=0):n<=128/\∀ t∈l,okT n t:=by
 unfold tcheck at h
 split at h
 ·cases h
 ·split at h
  ·cases h
  ·exact⟨by omega,goT_ok (by omega) l _ _ h⟩
theorem tF338w (a b:Int) (m:1<=a) (t:0<=b) (q:b<=4611686018427387904):Tot (F338 a b) (λr=>1<=r/\r∣a/\r∣b):=by
 unfold F338
 refine Xb (R:=λr=>1<=r/\r∣a/\r∣b) (Xs (λ(x,y)=>1<=x/\0<=y/\y<=b/\∀ d,d∣x->d∣y->d∣a/\d∣b) (λ(_,y)=>y.toNat) _ (λs u=>?_) ⟨m,t,Int.le_refl _,λd h k=>⟨h,k⟩⟩ (by dsimp only;omega)) λo l=>Xd l
 obtain⟨x,y⟩:=s
 obtain⟨f,j,v,c⟩:=u
 dsimp only at f j v c ⊢
 unfold LF338_11
 cases hc:decide (y>0)with
 |true=>
  have i:=of_decide_eq_true hc
  left
  obtain⟨r,er,hr⟩:=t_gr (a:=x) (b:=y) (by omega)
  rw[er]
  subst hr
  have n:x.tmod y=x%y:=Int.tmod_eq_emod_of_nonneg (by omega)
  have w:0<=x%y:=Int.emod_nonneg _ (by omega)
  have z:x%y<y:=Int.emod_lt_of_pos _ i
  refine⟨(y,x.tmod y),rfl,⟨by omega,by dsimp only;omega,by dsimp only;omega,λd g e=>c d ?_ g⟩,by dsimp only;omega⟩
  dsimp only at e
  rw[n]at e
  have p:=Int.mul_ediv_add_emod x y
  rw[<-p]
  exact Int.dvd_add (Int.dvd_trans g (Int.dvd_mul_right _ _)) e
 |false=>
  have i:=of_decide_eq_false hc
  right
  have:y=0:=by omega
  subst this
  exact⟨_,rfl,f,c x (Int.dvd_refl _) (Int.dvd_zero _)⟩
theorem tdiv_pos {a g:Int} (e:1<=a) (d:1<=g) (c:g∣a):1<=a.tdiv g/\a.tdiv g<=a:=by
 obtain⟨k,rfl⟩:=c
 rw[Int.mul_tdiv_cancel_left _ (by omega)]
 have b:1<=k:=by
  rcases Int.lt_or_le k 1 with h|h
  ·have:=Int.mul_le_mul_of_nonneg_left (show k<=0 by omega) (show 0<=g by omega)
   rw[Int.mul_zero]at this
   omega
  ·exact h
 refine⟨b,?_⟩
 have:=Int.mul_le_mul_of_nonneg_right d (show 0<=k by omega)
 omega
theorem tLF335_14w {n J j f d:Int} {m:Sl G425} (M:ln m<=6) (y:∀ t∈Sl.es m,okT n t) (P:0<=d/\d<=6) (k:1<=j/\j<=32^d.toNat) (s:1<=f/\f<=32^d.toNat):
  Tot (LF335_14 m J j f d) (λr=>match r with
   |.inl (a,b,i)=>i=d+1/\d<6/\(1<=a/\a<=32^i.toNat)/\(1<=b/\b<=32^i.toNat)
   |.inr (a,b)=>1<=a/\1<=b):=by
 have N:(32:Int)^d.toNat<=1073741824:=by
  have:d=0\/d=1\/d=2\/d=3\/d=4\/d=5\/d=6:=by omega
  rcases this with h|h|h|h|h|h|h<;>subst h<;>decide
 have v:(32:Int)^(d+1).toNat=32^d.toNat*32:=by
  rw[show(d+1).toNat=d.toNat+1 by omega,Int.pow_succ]
 refine t_bd (λc=>?_) λc=>Xd ⟨k.1,s.1⟩
 refine Xb (t_gx (by omega) (by simp only[ln]at c;omega)) λe z=>?_
 have K:=y e z.1
 refine Xb (tF337) λH _=>?_
 have x:wi (d+1)=d+1:=Xp (by omega) (by omega)
 refine Xc (λB=>?_) λB=>?_
 ·obtain⟨⟨a0,I⟩,⟨D,G⟩,_⟩:=K
  have w:1<=j*e.far:=Int.mul_le_mul k.1 D (by omega) (by omega)
  have Q:j*e.far<=32^d.toNat*32:=Int.mul_le_mul k.2 G (by omega) (by omega)
  have C:1<=f*e.fap:=Int.mul_le_mul s.1 a0 (by omega) (by omega)
  have L:f*e.fap<=32^d.toNat*32:=Int.mul_le_mul s.2 I (by omega) (by omega)
  rw[Xp (n:=j*e.far) (by omega) (by omega),Xp (n:=f*e.fap) (by omega) (by omega)]
  refine Xb (tF338w _ _ w (by omega) (by omega)) λg E=>?_
  obtain⟨u,F,A⟩:=E
  refine Xb (t_gq (by omega)) λo q=>?_
  refine Xb (t_gq (by omega)) λp l=>?_
  have T:=tdiv_pos w u F
  have R:=tdiv_pos C u A
  have O:o=(j*e.far).tdiv g:=q.trans (Xp (by omega) (by omega))
  have S:p=(f*e.fap).tdiv g:=l.trans (Xp (by omega) (by omega))
  refine Xd ?_
  dsimp only
  rw[x,v]
  exact⟨rfl,by omega,by omega,by omega⟩
 ·refine Xd ?_
  dsimp only
  rw[x,v]
  exact⟨rfl,by omega,by omega,by omega⟩
theorem tF335w {n p:Int} {e:Sl G425} (l:ln e<=6) (k:∀ t∈Sl.es e,okT n t):Tot (F335 e p) (λr=>1<=r.1/\1<=r.2):=Xb (R:=λr=>1<=r.1/\1<=r.2) (Xe (λ(_,_,c)=>c) 6 (by decide) (λ(a,b,c)=>(1<=a/\a<=32^c.toNat)/\(1<=b/\b<=32^c.toNat)) (by dsimp only;omega) (by dsimp only;omega) (by decide) (λ⟨a,b,i⟩ d g f=>(by
 dsimp only at d g f ⊢
 refine(tLF335_14w l k ⟨g,f⟩ d.1 d.2).mono ?_
 rintro(⟨x,y,j⟩|⟨x,y⟩) h
 ·exact⟨⟨h.2.2.1,h.2.2.2⟩,h.1,h.2.1⟩
 ·exact h))) λo m=>Xd m
theorem tF327w {n e d:Int} {a:Sl G425} (h:ln a<=6) (f:∀ t∈Sl.es a,okT n t):Tot (F327 a e d) (λ_=>True):=by
 have key:∀ b,Tot (JF327_4 a e d b) (λ_=>True):=by
  intro b
  unfold JF327_4
  refine Xc (λc=>Xd trivial) λc=>?_
  refine Xb (tF335w h f) λj i=>?_
  refine Xb (t_gr (by omega)) λk _=>?_
  refine Xc (λc=>Xd trivial) λc=>?_
  exact Xb (t_gq (by omega)) λg _=>Xd trivial
 exact Xc (λ_=>key _) λ_=>key _
theorem F137_zero {b:Sl G425} {a:Sl Int} {r:Sl Int×Int} (h:F319 b a=some r) (hr:r.2=0):ln a<=128/\∀ t∈Sl.es b,okT (ln a) t:=by
 unfold F319 F326 at h
 simp only[Option.bind_some]at h
 rcases cor h with⟨c,h⟩|⟨c,h⟩
 ·cases h
  simp only at hr
  rw[hr]at c
  cases c
 ·exact tcheck_ok (by simpa using c)
theorem tF319 {j:Sl G425} {l:Sl Int} (g:(OkSl (λ_=>True) 6) j) (b:(OkSl (λ_=>True) 1000) l):Tot (F319 j l) (λr=>ln r.1<=1000/\True):=by
 unfold F319
 unfold F326
 simp only[Option.bind_some]
 generalize hz:tcheck _ _=z
 refine t_bn (λc=>Xd ⟨by simp only[ln_nil];omega,trivial⟩) λc=>?_
 subst c
 obtain⟨y,w⟩:=tcheck_ok hz
 have t:=g.le
 have p:=b.le
 refine Xb (t_gmc p.1 (by omega) (by decide)) λ_ _=>?_
 refine Xb (Xe (λ(_,a)=>a) 1000 (by decide) (λ(d,a)=>(d.length:Int)<=a) (T:=λr=>match r with|.inl _=>True|.inr r=>r.length<=1000) (by decide) (by decide) (by decide) ?_) ?_
 ·rintro⟨d,a⟩ o k m
  dsimp only at o k m ⊢
  unfold LF319_17
  refine t_bd (λc=>?_) λc=>Xd (show d.length<=1000 by omega)
  refine Xb (Xi b k c) λu s=>?_
  refine Xb (tF327w t.2 w) λx _=>?_
  refine Xc (λc=>Xd trivial) λc=>?_
  refine Xb (t_gappK 1 (h:=by omega)) λi q=>?_
  have e:=Xp (n:=a+1) (by omega) (by omega)
  exact Xd ⟨by show(i.length:Int)<=wi (a+1);omega,e,by show a<1000;omega⟩
 ·rintro(v|f) h
  ·exact Xd ⟨by simp only[ln_nil];omega,trivial⟩
  ·exact Xd ⟨by show((f.length:Nat):Int)<=_;dsimp only at h;omega,trivial⟩
theorem tJF328_7:Tot (JF328_7 ) (λ_=>True):=tL
theorem tLF328_26w {f:G425} {e:Sl G425} {h:Int} {b:Sl Int} {i a:Int} (k:OkSl (λ_=>True) 6 e) (p:OkSl (λ_=>True) 1000 b) (z:0<=h/\h<ln e) (m:ln b<=128/\∀ t∈Sl.es e,okT (ln b) t) (u:okT (ln b) f) (v:0<=a) (w:a<=128):
  Tot (LF328_26 f e h b i a) (λr=>match r with|.inl r=>r.2=a+1/\a<128|.inr _=>True):=by
 unfold LF328_26 F332
 simp only[Option.bind_some]
 have q:=k.le
 obtain⟨_,_,y,x,A⟩:=u
 rw[Xp (n:=f.fav+f.fI) (by omega) (by omega)]
 refine t_bd (λc=>?_) λc=>Xd trivial
 refine Xb (t_gslR (by rw[Xp (by omega) (by omega)];omega) (by rw[Xp (by omega) (by omega)];omega) (by simp only[ln];omega)) λg d=>?_
 have o:ln g<=6:=by
  simp only[ln]at q ⊢
  rw[d]
  simp only[List.length_drop,List.length_take]
  omega
 refine Xb (Xi p v (by omega)) λl _=>?_
 refine Xb (tF327w (n:=ln b) o λt j=>m.2 t ?_) λs _=>?_
 ·rw[d]at j
  exact List.mem_of_mem_take (List.mem_of_mem_drop j)
 ·exact Xc (λc=>Xd trivial) λ_=>Xd ⟨Xp (by omega) (by omega),by show a<128;omega⟩
theorem tF328 {j:Sl G425} {p:Int} {g:Sl Int} (m:(OkSl (λ_=>True) 6) j) (l:(OkSl (λ_=>True) 1000) g) (n:0<=p/\p<ln j) (o:ln g<=128/\∀ t∈Sl.es j,okT (ln g) t):Tot (F328 j p g) (λ_=>True):=Xb (t_gx n.1 n.2) λq u=>have h:=o.2 q u.1;(by
 obtain⟨_,_,w,z,A⟩:=h
 refine Xb (Xe (λ(_,f)=>f) 128 (by decide) (λ_=>True) (T:=λ_=>True) w (by dsimp only;omega) trivial ?_) ?_
 ·rintro⟨x,f⟩ _ k i
  dsimp only at k i ⊢
  refine(tLF328_26w m l n o (o.2 q u.1) k i).mono ?_
  rintro(⟨a,b⟩|r) h
  ·exact⟨trivial,h⟩
  ·trivial
 ·rintro(_|s) _
  ·exact Xd trivial
  ·show Tot (JF328_6 q s) _
   unfold JF328_6
   refine Xb (Xe (λ(d:Int)=>d+1) 10 (by decide) (λ_=>True) (T:=λ_=>True) (by decide) (by decide) trivial ?_) ?_
   ·intro d _ k i
    try dsimp only at k i ⊢
    unfold LF328_14
    have e:wi (d+1)=d+1:=Xp (by omega) (by omega)
    refine t_bd (λc=>?_) λc=>Xd trivial
    refine Xb (t_gshr (by omega)) λv _=>?_
    exact Xc (λ_=>Xd trivial) λ_=>Xd ⟨trivial,by show wi (d+1)+1=d+1+1;omega,by show d+1<10;omega⟩
   ·rintro(y|_) _
    ·exact Xd trivial
    ·exact tJF328_7)
theorem tF320 {j:Sl G425} {l:Sl Int} (b:(OkSl (λ_=>True) 6) j) (d:(OkSl (λ_=>True) 1000) l):Tot (F320 j l) (λr=>ln r.1<=1000/\True):=by
 unfold F320
 obtain⟨r,er,hr⟩:=tF319 b d
 rw[er]
 simp only[Option.bind_some]
 refine t_bn (λc=>Xd ⟨by simp only[ln_nil];omega,trivial⟩) λc=>?_
 have q:=F137_zero er c
 have t:=b.le
 refine Xb (t_gmc t.1 (by omega) (by decide)) λ_ _=>?_
 refine Xb (Xe (λ(_,a)=>a) 1000 (by decide) (λ(f,a)=>(f.length:Int)<=a) (T:=λr=>match r with|.inl _=>True|.inr r=>r.length<=1000) (by decide) (by decide) (by decide) ?_) ?_
 ·rintro⟨f,a⟩ o k m
  dsimp only at o k m ⊢
  unfold LF320_16
  refine t_bd (λc=>?_) λc=>Xd (show f.length<=1000 by omega)
  refine Xb (tF328 b d ⟨k,c⟩ q) λs _=>?_
  refine Xc (λc=>Xd trivial) λc=>?_
  refine Xb (t_gappK 1 (h:=by omega)) λi p=>?_
  have e:=Xp (n:=a+1) (by omega) (by omega)
  exact Xd ⟨by show(i.length:Int)<=wi (a+1);omega,e,by show a<1000;omega⟩
 ·rintro(u|g) h
  ·exact Xd ⟨by simp only[ln_nil];omega,trivial⟩
  ·exact Xd ⟨by show((g.length:Nat):Int)<=_;dsimp only at h;omega,trivial⟩
theorem tJF307_1 {l} (a:okG100 l):Tot (JF307_1 l) (λr=>ln r.1<=1000/\True):=Xb (tF318 (a.fg).mono) λk _=>Xb (tF319 (a.fY).mono (OkSl.tr (s:=k) (n:=1000) tI)) λm f=>(by
 obtain⟨j,h⟩:=f
 refine t_bn (λb=>?_) λb=>?_
 ·exact tL
 ·refine Xb (tF320 (a.fY).mono (OkSl.tr (s:=k) (n:=1000) tI)) λo g=>?_
  obtain⟨i,d⟩:=g
  refine t_bn (λc=>?_) λc=>?_
  ·exact tL
  ·have e:=(OkSl.tr (s:=m.1) (n:=1000) tI).le
   exact tL)
theorem tJF307_24 {a:Int} {b} (c:0<=a) (d:a<1000):Tot (JF307_24 a b) (λr=>match r with|.inl r=>(r=a+1/\a<1000)|.inr (.inl r)=>True|.inr (.inr r)=>True):=Xc (λ_=>tL) λ_=>tL
theorem tLF307_16 {f} {a:Int} (b:okG100 f) (h:0<=a) (g:a<=1000):Tot (LF307_16 f a) (λr=>match r with|.inl r=>(r=a+1/\a<1000)|.inr (.inl r)=>True|.inr (.inr r)=>True):=t_bd (λ_=>have e:=(b.fg).le;t_bi (Xi (b.fg) tI tI) λ_ c _=>Xb (tF142 c) λ_ _=>t_bn (λ_=>tL) λ_=>t_be (λ_=>t_bd (λ_=>(tJF307_24 tI tI).mono tM) λ_=>(tJF307_24 tI tI).mono tM) λ_=>(tJF307_24 tI tI).mono tM) λ_=>have d:=(b.fg).le;tL
theorem tF307 {d} (c:okG100 d):Tot (F307 d) (λr=>ln r.1<=1000/\True):=Xb (Xe (λb=>b) 1000 (by decide) (λb=>True) (T:=tru) tB tB tZ (λ_ _ e f=>(tLF307_16 c e f).mono tM)) ((by
 rintro(g|⟨⟩) a
 ·try dsimp only at a ⊢
  exact tL
 ·try dsimp only at a ⊢
  exact(tJF307_1 c).mono tM))
theorem tJF257_7 {i:G100} {q} {o:Bool} (a:okG100 i) (p:o=true->(0<ln i.fg)):Tot (JF257_7 i q o) (λr=>ln r.1<=1000/\True):=Xc (λc=>have f:=(a.fg).le;have m:=p c;t_bi (Xi (a.fg) tI tI) λ_ h _=>Xb (tF142 h) λ_ _=>t_bn (λ_=>tL) λ_=>t_bd (λ_=>have l:=(a.fY).le;tL) λ_=>have k:=(a.fY).le;tL) λ_=>Xb (tF307 a) λj b=>(by
 obtain⟨e,d⟩:=b
 have g:=(OkSl.tr (s:=j.1) (n:=1000) tI).le
 exact tL)
theorem tJF257_3 {e g f} (a:okG100 e):Tot (JF257_3 e g f) (λr=>ln r.1<=1000/\True):=Xc (λ_=>tL) λ_=>t_bd (λ_=>have d:=(a.fg).le;tL) λ_=>have c:=(a.fg).le;Xb (tF306 a) λ_ _=>Xc (λ_=>(tJF257_7 a (by intro b;replace b:=eq_of_beq b;exact tI)).mono tM) λ_=>(tJF257_7 a (by intros;simp_all only [Bool.false_eq_true,Bool.true_eq_false,reduceCtorEq])).mono tM
theorem tF257 {b c} (a:okG100 b):Tot (F257 b c) (λr=>ln r.1<=1000/\True):=t_bd (λ_=>(tJF257_3 a).mono tM) λ_=>(tJF257_3 a).mono tM
theorem tJF258_2 {a}:Tot (JF258_2 a) (λ_=>True):=tL
theorem tLF258_10 {e:Sl Int} {f} {b:Int} (a:(OkSl (λ_=>True) 1000) e) (h:0<=b) (g:b<=1000):Tot (LF258_10 e f b) (λr=>match r with|.inl r=>True/\(r.2=b+1/\b<1000)|.inr r=>True):=t_bd (λ_=>have d:=(a).le;t_bi (Xi a tI tI) λ_ _ _=>tL) λ_=>have c:=(a).le;tL
theorem tF258 {d:Sl Int} (a:(OkSl (λ_=>True) 1000) d):Tot (F258 d) (λ_=>True):=Xb (Xe (λ(c,b)=>b) 1000 (by decide) (λ(c,b)=>True) (T:=tru) tB tB tZ (λ⟨c,b⟩ g e f=>(tLF258_10 a e f).mono tM)) λ_ _=>tJF258_2
theorem tJF188_5 {c:(Sl Int)×Int} {d} (b:(λp:(Sl Int)×Int=>(OkSl (λ_=>True) 1000) p.1/\True) c):Tot (JF188_5 c d) (λr=>ln r.1<=1000/\True):=t_bn (λ_=>tL) λ_=>have a:=(b.1).le;tL
theorem tJF188_8 {b:(Sl Int)×Int} {c} (a:(λp:(Sl Int)×Int=>(OkSl (λ_=>True) 1000) p.1/\True) b):Tot (JF188_8 b c) (λr=>ln r.1<=1000/\True):=Xc (λ_=>(tJF188_5 ⟨a.1,trivial⟩).mono tM) λ_=>(tJF188_5 ⟨a.1,trivial⟩).mono tM
theorem tF188 {k m} (i:okG100 k):Tot (F188 k m) (λr=>ln r.1<=1000/\True):=Xb (tF257 i) λa e=>(by
 obtain⟨d,f⟩:=e
 refine t_be (λc=>?_) λc=>?_
 ·refine t_bd (λb=>?_) λb=>?_
  ·have g:=(OkSl.tr (s:=a.1) (n:=1000) tI).le
   refine Xb (tF258 (OkSl.tr (s:=a.1) (n:=1000) tI)) λl j=>?_
   exact(tJF188_8 ⟨OkSl.tr (s:=a.1) (n:=1000) tI,trivial⟩).mono tM
  ·have h:=(OkSl.tr (s:=a.1) (n:=1000) tI).le
   exact(tJF188_8 ⟨OkSl.tr (s:=a.1) (n:=1000) tI,trivial⟩).mono tM
 ·exact(tJF188_8 ⟨OkSl.tr (s:=a.1) (n:=1000) tI,trivial⟩).mono tM)
theorem tF213 {e f} (a:okG100 e):Tot (F213 e f) (λ_=>True):=Xb (tF188 a) λ_ c=>(by
 obtain⟨d,b⟩:=c
 exact tL)
theorem tF138 {a}:Tot (F138 a) (λ_=>True):=t_be (λ_=>tL) λ_=>tL
theorem tF211_1 {b c} (a:okG100 b):Tot (F211_1 b c) (λ_=>True):=Xb (tF212_1 (a.fg).mono) λ_ _=>Xc (λ_=>Xb (tF213 a) λ_ _=>Xb (tF138) λ_ _=>tL) λ_=>tL
theorem tJF279_1_2:Tot (JF279_1_2 ) (λ_=>True):=tL
theorem tLF279_1_9 {f:Sl G100} {g} {c:Int} (a:(OkSl okG100 1000) f) (i:0<=c) (h:c<=1000):Tot (LF279_1_9 f g c) (λr=>match r with|.inl r=>(r=c+1/\c<1000)|.inr (.inl r)=>True|.inr (.inr r)=>True):=t_bd (λ_=>have e:=(a).le;t_bi (Xi a tI tI) λ_ b _=>Xb (tF211_1 b) λ_ _=>Xc (λ_=>tL) λ_=>tL) λ_=>have d:=(a).le;tL
theorem tF279_1 {c:Sl G100} {f} (b:(OkSl okG100 1000) c):Tot (F279_1 c f) (λ_=>True):=Xb (Xe (λd=>d) 1000 (by decide) (λd=>True) (T:=tru) tB tB tZ (λ_ _ e g=>(tLF279_1_9 b e g).mono tM)) ((by
 rintro(h|⟨⟩) a
 ·try dsimp only at a ⊢
  exact tL
 ·try dsimp only at a ⊢
  exact tJF279_1_2))
theorem tF210_1 {b:Sl G100} {c} (a:(OkSl okG100 1000) b):Tot (F210_1 b c) (λ_=>True):=Xb (tF279_1 a) λ_ _=>tL
theorem tF209_1 {b c} (a:okG95 b):Tot (F209_1 b c) (λ_=>True):=Xb (tF210_1 (a.fh).mono) λ_ _=>tL
theorem tJF278_1_2:Tot (JF278_1_2 ) (λ_=>True):=tL
theorem tLF278_1_9 {f:Sl G95} {g} {c:Int} (a:(OkSl okG95 1000) f) (i:0<=c) (h:c<=1000):Tot (LF278_1_9 f g c) (λr=>match r with|.inl r=>(r=c+1/\c<1000)|.inr (.inl r)=>True|.inr (.inr r)=>True):=t_bd (λ_=>have e:=(a).le;t_bi (Xi a tI tI) λ_ b _=>Xb (tF209_1 b) λ_ _=>Xc (λ_=>tL) λ_=>tL) λ_=>have d:=(a).le;tL
theorem tF278_1 {c:Sl G95} {f} (b:(OkSl okG95 1000) c):Tot (F278_1 c f) (λ_=>True):=Xb (Xe (λd=>d) 1000 (by decide) (λd=>True) (T:=tru) tB tB tZ (λ_ _ e g=>(tLF278_1_9 b e g).mono tM)) ((by
 rintro(h|⟨⟩) a
 ·try dsimp only at a ⊢
  exact tL
 ·try dsimp only at a ⊢
  exact tJF278_1_2))
theorem tF208_1 {b:Sl G95} {c} (a:(OkSl okG95 1000) b):Tot (F208_1 b c) (λ_=>True):=Xb (tF278_1 a) λ_ _=>tL
theorem tF206_1 {c b} (a:okG75 b):Tot (F206_1 c b) (λ_=>True):=Xb (tF99 a) λ_ _=>t_bn (λ_=>tL) λ_=>Xb (tF208_1 (a.ff).mono) λ_ _=>tL
theorem tLF131_4_11 {g h} {c:Int} {d:List G159} (a:okG27 g) (i:d.length+1<=500000000000) (k:0<=c) (j:c<=10):Tot (LF131_4_11 g h c d) (λr=>match r with|.inl r=>(r.1=c+1/\c<10)/\r.2.length<=d.length+1|.inr r=>r.length<=d.length+1):=t_bd (λ_=>have f:=(a.fc).le;t_bi (Xi (a.fc) tI tI) λ_ b _=>Xb (tF206_1 b) λ_ _=>Xb (Yb a tI) λ_ _=>tL) λ_=>have e:=(a.fc).le;tL
theorem tF131_4 {h i} {a:List G159} (e:okG27 h) (k:a.length+11<=500000000000):Tot (F131_4 h i a) (λr=>r.length<=a.length+11):=Xb (Xe (λ(b,c)=>b) 10 (by decide) (λ(b,c)=>(c.length:Int)<=a.length+0+1*b) (T:=λr=>r.length<=a.length+11) tB tB tZ (λ⟨b,c⟩ j f g=>(by
 try dsimp only at j f g ⊢
 refine(tLF131_4_11 e tI f g).mono ?_
 exact tM))) λ_ d=>(by
 try dsimp only at d ⊢
 exact tL)
theorem tF137_1 {c d} {a:List G159} (b:okG27 c) (e:a.length+11<=500000000000):Tot (F137_1 c d a) (λr=>r.length<=a.length+11):=Xb (tF131_4 b tI) λ_ _=>tL
theorem tF65_1 {c d} {a:List G159} (b:okG27 c) (e:a.length+11<=500000000000):Tot (F65_1 c d a) (λr=>r.length<=a.length+11):=Xb (tF137_1 b tI) λ_ _=>tL
theorem tF139 {a}:Tot (F139 a) (λ_=>True):=t_bn (λ_=>Xb (tF138) λ_ _=>tL) λ_=>tL
theorem tF211_2 {b c} (a:okG100 b):Tot (F211_2 b c) (λ_=>True):=Xb (tF212_1 (a.fg).mono) λ_ _=>Xc (λ_=>Xb (tF213 a) λ_ _=>Xb (tF139) λ_ _=>tL) λ_=>tL
theorem tJF279_2_2:Tot (JF279_2_2 ) (λ_=>True):=tL
theorem tLF279_2_9 {f:Sl G100} {g} {c:Int} (a:(OkSl okG100 1000) f) (i:0<=c) (h:c<=1000):Tot (LF279_2_9 f g c) (λr=>match r with|.inl r=>(r=c+1/\c<1000)|.inr (.inl r)=>True|.inr (.inr r)=>True):=t_bd (λ_=>have d:=(a).le;t_bi (Xi a tI tI) λ_ b _=>Xb (tF211_2 b) λ_ _=>Xc (λ_=>tL) λ_=>tL) λ_=>have e:=(a).le;tL
theorem tF279_2 {c:Sl G100} {f} (b:(OkSl okG100 1000) c):Tot (F279_2 c f) (λ_=>True):=Xb (Xe (λd=>d) 1000 (by decide) (λd=>True) (T:=tru) tB tB tZ (λ_ _ e g=>(tLF279_2_9 b e g).mono tM)) ((by
 rintro(h|⟨⟩) a
 ·try dsimp only at a ⊢
  exact tL
 ·try dsimp only at a ⊢
  exact tJF279_2_2))
theorem tF210_2 {b:Sl G100} {c} (a:(OkSl okG100 1000) b):Tot (F210_2 b c) (λ_=>True):=Xb (tF279_2 a) λ_ _=>tL
theorem tF209_2 {b c} (a:okG95 b):Tot (F209_2 b c) (λ_=>True):=Xb (tF210_2 (a.fh).mono) λ_ _=>tL
theorem tJF278_2_2:Tot (JF278_2_2 ) (λ_=>True):=tL
theorem tLF278_2_9 {f:Sl G95} {g} {c:Int} (a:(OkSl okG95 1000) f) (i:0<=c) (h:c<=1000):Tot (LF278_2_9 f g c) (λr=>match r with|.inl r=>(r=c+1/\c<1000)|.inr (.inl r)=>True|.inr (.inr r)=>True):=t_bd (λ_=>have d:=(a).le;t_bi (Xi a tI tI) λ_ b _=>Xb (tF209_2 b) λ_ _=>Xc (λ_=>tL) λ_=>tL) λ_=>have e:=(a).le;tL
theorem tF278_2 {c:Sl G95} {f} (b:(OkSl okG95 1000) c):Tot (F278_2 c f) (λ_=>True):=Xb (Xe (λd=>d) 1000 (by decide) (λd=>True) (T:=tru) tB tB tZ (λ_ _ e g=>(tLF278_2_9 b e g).mono tM)) ((by
 rintro(h|⟨⟩) a
 ·try dsimp only at a ⊢
  exact tL
 ·try dsimp only at a ⊢
  exact tJF278_2_2))
theorem tF208_2 {b:Sl G95} {c} (a:(OkSl okG95 1000) b):Tot (F208_2 b c) (λ_=>True):=Xb (tF278_2 a) λ_ _=>tL
theorem tF206_2 {c b} (a:okG75 b):Tot (F206_2 c b) (λ_=>True):=Xb (tF99 a) λ_ _=>t_bn (λ_=>tL) λ_=>Xb (tF208_2 (a.ff).mono) λ_ _=>tL
theorem tLF131_5_11 {g h} {c:Int} {d:List G159} (a:okG27 g) (i:d.length+1<=500000000000) (k:0<=c) (j:c<=10):Tot (LF131_5_11 g h c d) (λr=>match r with|.inl r=>(r.1=c+1/\c<10)/\r.2.length<=d.length+1|.inr r=>r.length<=d.length+1):=t_bd (λ_=>have e:=(a.fc).le;t_bi (Xi (a.fc) tI tI) λ_ b _=>Xb (tF206_2 b) λ_ _=>Xb (Yb a tI) λ_ _=>tL) λ_=>have f:=(a.fc).le;tL
theorem tF131_5 {h i} {a:List G159} (e:okG27 h) (k:a.length+11<=500000000000):Tot (F131_5 h i a) (λr=>r.length<=a.length+11):=Xb (Xe (λ(b,c)=>b) 10 (by decide) (λ(b,c)=>(c.length:Int)<=a.length+0+1*b) (T:=λr=>r.length<=a.length+11) tB tB tZ (λ⟨b,c⟩ j f g=>(by
 try dsimp only at j f g ⊢
 refine(tLF131_5_11 e tI f g).mono ?_
 exact tM))) λ_ d=>(by
 try dsimp only at d ⊢
 exact tL)
theorem tF137_2 {c d} {a:List G159} (b:okG27 c) (e:a.length+11<=500000000000):Tot (F137_2 c d a) (λr=>r.length<=a.length+11):=Xb (tF131_5 b tI) λ_ _=>tL
theorem tF66_1 {c d} {a:List G159} (b:okG27 c) (e:a.length+11<=500000000000):Tot (F66_1 c d a) (λr=>r.length<=a.length+11):=Xb (tF137_2 b tI) λ_ _=>tL
theorem tF141 {c b} (a:okG147 b):Tot (F141 c b) (λ_=>True):=Xb (tF142 a) λ_ _=>tL
theorem tJF140_1_14 {b:Int} {a:List G159} (c:a.length+0<=500000000000) (d:0<=b) (e:b<10):Tot (Qs b a) (λr=>match r with|.inl r=>(r.1=b+1/\b<10)/\r.2.length<=a.length+0|.inr r=>r.length<=a.length+0):=tL
theorem tJF140_1_27 {a:Int} {b:List G159} (c:b.length+0<=500000000000) (d:0<=a) (e:a<5):Tot (Qr a b) (λr=>match r with|.inl r=>(r.1=a+1/\a<5)/\r.2.length<=b.length+0|.inr r=>r.length<=b.length+0):=tL
theorem tJF140_1_40 {a:Int} {b:List G159} (c:b.length+0<=500000000000) (d:0<=a) (e:a<3):Tot (Qq a b) (λr=>match r with|.inl r=>(r.1=a+1/\a<3)/\r.2.length<=b.length+0|.inr r=>r.length<=b.length+0):=tL
theorem tLF140_1_50 {d j m i k l} {b:Int} {c:List G159} (a:okG100 d) (g:okG27 k) (n:c.length+1<=500000000000) (p:0<=b) (o:b<=1000):Tot (LF140_1_50 d j m i k l b c) (λr=>match r with|.inl r=>(r.1=b+1/\b<1000)/\r.2.length<=c.length+1|.inr r=>r.length<=c.length+1):=t_bd (λ_=>have h:=(a.fg).le;t_bi (Xi (a.fg) tI tI) λ_ e _=>Xb (tF141 e) λ_ _=>Xb (Yb g tI) λ_ _=>tL) λ_=>have f:=(a.fg).le;tL
theorem tLF140_1_37 {f l s n q} {c:Int} {a:List G159} (b:okG95 f) (i:okG27 n) (t:a.length+1001<=500000000000) (v:0<=c) (u:c<=3):Tot (LF140_1_37 f l s n q c a) (λr=>match r with|.inl r=>(r.1=c+1/\c<3)/\r.2.length<=a.length+1001|.inr r=>r.length<=a.length+1001):=t_bd (λ_=>have j:=(b.fh).le;t_bi (Xi (b.fh) tI tI) λ_ g _=>Xb (Xe (λ(d,e)=>d) 1000 (by decide) (λ(d,e)=>(e.length:Int)<=a.length+0+1*d) (T:=λr=>r.length<=a.length+1001) tB tB tZ (λ⟨d,e⟩ p o m=>(by
 try dsimp only at p o m ⊢
 refine(tLF140_1_50 g i tI o m).mono ?_
 exact tM))) λ_ h=>(by
 try dsimp only at h ⊢
 exact(tJF140_1_40 tI tI tI).mono tM)) λ_=>have k:=(b.fh).le;tL
theorem tLF140_1_24 {f q m p} {c:Int} {a:List G159} (b:okG75 f) (j:okG27 m) (s:a.length+4004<=500000000000) (u:0<=c) (t:c<=5):Tot (LF140_1_24 f q m p c a) (λr=>match r with|.inl r=>(r.1=c+1/\c<5)/\r.2.length<=a.length+4004|.inr r=>r.length<=a.length+4004):=t_bd (λ_=>have i:=(b.ff).le;t_bi (Xi (b.ff) tI tI) λ_ g _=>Xb (Xe (λ(d,e)=>d) 3 (by decide) (λ(d,e)=>(e.length:Int)<=a.length+0+1001*d) (T:=λr=>r.length<=a.length+4004) tB tB tZ (λ⟨d,e⟩ o n l=>(by
 try dsimp only at o n l ⊢
 refine(tLF140_1_37 g j tI n l).mono ?_
 exact tM))) λ_ h=>(by
 try dsimp only at h ⊢
 exact(tJF140_1_27 tI tI tI).mono tM)) λ_=>have k:=(b.ff).le;tL
theorem tLF140_1_11 {k n} {g:Int} {d:List G159} (a:okG27 k) (o:d.length+24024<=500000000000) (q:0<=g) (p:g<=10):Tot (LF140_1_11 k n g d) (λr=>match r with|.inl r=>(r.1=g+1/\g<10)/\r.2.length<=d.length+24024|.inr r=>r.length<=d.length+24024):=t_bd (λ_=>have i:=(a.fc).le;t_bi (Xi (a.fc) tI tI) λ_ e _=>Xb (Xe (λ(b,c)=>b) 5 (by decide) (λ(b,c)=>(c.length:Int)<=d.length+0+4004*b) (T:=λr=>r.length<=d.length+24024) tB tB tZ (λ⟨b,c⟩ m l j=>(by
 try dsimp only at m l j ⊢
 refine(tLF140_1_24 e a tI l j).mono ?_
 exact tM))) λ_ f=>(by
 try dsimp only at f ⊢
 exact(tJF140_1_14 tI tI tI).mono tM)) λ_=>have h:=(a.fc).le;tL
theorem tF140_1 {h i} {a:List G159} (e:okG27 h) (k:a.length+264264<=500000000000):Tot (F140_1 h i a) (λr=>r.length<=a.length+264264):=Xb (Xe (λ(b,c)=>b) 10 (by decide) (λ(b,c)=>(c.length:Int)<=a.length+0+24024*b) (T:=λr=>r.length<=a.length+264264) tB tB tZ (λ⟨b,c⟩ j f g=>(by
 try dsimp only at j f g ⊢
 refine(tLF140_1_11 e tI f g).mono ?_
 exact tM))) λ_ d=>(by
 try dsimp only at d ⊢
 exact tL)
theorem tF67_1 {c d} {a:List G159} (b:okG27 c) (e:a.length+264264<=500000000000):Tot (F67_1 c d a) (λr=>r.length<=a.length+264264):=Xb (tF140_1 b tI) λ_ _=>tL
theorem tLF144_12 {h i} {c:Int} (b:okG27 h) (k:0<=c) (j:c<=4):Tot (LF144_12 h i c) (λr=>match r with|.inl r=>True/\(r.2=c+1/\c<4)|.inr (.inl r)=>True/\True|.inr (.inr r)=>True):=t_bd (λ_=>have f:=(b.fi).le;t_bi (Xi (b.fi) tI tI) λ_ a _=>t_bd (λ_=>have e:=(a.fx).le;tL) λ_=>have g:=(a.fx).le;tL) λ_=>have d:=(b.fi).le;tL
theorem tLF144_12w {d:G27} {f a:Int} (b:okG27 d) (e:0<=a) (g:a<=4):Tot (LF144_12 d f a) (λr=>match r with|.inl r=>r.2=a+1/\a<4|.inr (.inl r)=>0<=r.1/\r.1<ln d.fi|.inr (.inr _)=>True):=t_bd (λc=>have lc:=(b.fi).le;Xb (Xi (b.fi) tI tI) λ_ _=>Xc (λ_=>Xd ⟨e,c⟩) (λ_=>tL)) (λ_=>tL)
theorem tF144w {d:G27} {j:Int} (e:okG27 d):Tot (F144 d j) (λr=>r.2.2=0->0<=r.1/\r.1<ln d.fi):=Xc (λc=>Xd (λh=>absurd h (by decide))) λ_=>Xb (Xe (λ(k,f)=>f) 4 (by decide) (λ_=>True) (T:=λo=>match o with|.inl r=>0<=r.1/\r.1<ln d.fi|.inr _=>True) tB tB trivial (λ⟨k,f⟩ m i g=>(tLF144_12w e i g).mono ((by
 rintro(⟨a,b⟩|⟨a,b⟩|a) h
 ·exact⟨trivial,h.1,h.2⟩
 ·exact h
 ·trivial)))) ((by
 rintro(⟨l,n⟩|⟨⟩) h
 ·exact Xd λ_=>h
 ·unfold JF144_3
  exact Xd (λh=>absurd h (by decide))))
theorem tF145_1 {b a}:Tot (F145_1 b a) (λ_=>True):=Xb (tF77) λ_ _=>Xb (Wv) λ_ _=>tL
theorem tF147_1 {b a}:Tot (F147_1 b a) (λ_=>True):=Xb (tF145_1) λ_ _=>tL
theorem tJF222_1_2:Tot (JF222_1_2 ) (λ_=>True):=tL
theorem tLF222_1_9 {e:Sl G182} {f} {b:Int} (a:(OkSl (λ_=>True) 1000) e) (h:0<=b) (g:b<=1000):Tot (LF222_1_9 e f b) (λr=>match r with|.inl r=>(r=b+1/\b<1000)|.inr (.inl r)=>True|.inr (.inr r)=>True):=t_bd (λ_=>have d:=(a).le;t_bi (Xi a tI tI) λ_ _ _=>Xb (tF147_1) λ_ _=>Xc (λ_=>tL) λ_=>tL) λ_=>have c:=(a).le;tL
theorem tF222_1 {c:Sl G182} {f} (b:(OkSl (λ_=>True) 1000) c):Tot (F222_1 c f) (λ_=>True):=Xb (Xe (λd=>d) 1000 (by decide) (λd=>True) (T:=tru) tB tB tZ (λ_ _ e g=>(tLF222_1_9 b e g).mono tM)) ((by
 rintro(h|⟨⟩) a
 ·try dsimp only at a ⊢
  exact tL
 ·try dsimp only at a ⊢
  exact tJF222_1_2))
theorem tF146_1 {b:Sl G182} {c} (a:(OkSl (λ_=>True) 1000) b):Tot (F146_1 b c) (λ_=>True):=Xb (tF222_1 a) λ_ _=>tL
theorem tF149_1 {b a}:Tot (F149_1 b a) (λ_=>True):=Xb (tF145_1) λ_ _=>tL
theorem tJF223_1_2:Tot (JF223_1_2 ) (λ_=>True):=tL
theorem tLF223_1_9 {e:Sl G245} {f} {b:Int} (a:(OkSl (λ_=>True) 1000) e) (h:0<=b) (g:b<=1000):Tot (LF223_1_9 e f b) (λr=>match r with|.inl r=>(r=b+1/\b<1000)|.inr (.inl r)=>True|.inr (.inr r)=>True):=t_bd (λ_=>have c:=(a).le;t_bi (Xi a tI tI) λ_ _ _=>Xb (tF149_1) λ_ _=>Xc (λ_=>tL) λ_=>tL) λ_=>have d:=(a).le;tL
theorem tF223_1 {c:Sl G245} {f} (b:(OkSl (λ_=>True) 1000) c):Tot (F223_1 c f) (λ_=>True):=Xb (Xe (λd=>d) 1000 (by decide) (λd=>True) (T:=tru) tB tB tZ (λ_ _ e g=>(tLF223_1_9 b e g).mono tM)) ((by
 rintro(h|⟨⟩) a
 ·try dsimp only at a ⊢
  exact tL
 ·try dsimp only at a ⊢
  exact tJF223_1_2))
theorem tF148_1 {b:Sl G245} {c} (a:(OkSl (λ_=>True) 1000) b):Tot (F148_1 b c) (λ_=>True):=Xb (tF223_1 a) λ_ _=>tL
theorem tJF143_1_17 {c b} (a:okG147 c):Tot (JF143_1_17 c b) (λ_=>True):=Xb (tF146_1 (a.fD).mono) λ_ _=>Xc (λ_=>tL) λ_=>Xb (tF148_1 (a.fS).mono) λ_ _=>tL
theorem tJF143_1_15 {d c b} (e:okG27 d) (a:okG147 c):Tot (JF143_1_15 d c b) (λ_=>True):=Xc (λ_=>tJF143_1_17 a) λ_=>tJF143_1_17 a
theorem tF143_1 {l q i r s n h f g k} {c:List G159} (b:okG147 f) (a:okG27 g) (t:c.length+0<=500000000000):Tot (F143_1 l q i r s n h f g k c) (λ_=>True):=Xb (tF142 b) λ_ _=>Xc (λ_=>tL) (λ_=>Xb (tF144w a) λ_ d=>Xc (λp=>(by
 obtain⟨m,o⟩:=d (eq_of_beq p)
 refine Xb (Xi (a.fi) m o) λj e=>?_
 exact(tJF143_1_15 a b).mono tM)) (λ_=>(tJF143_1_15 a b).mono tM))
theorem tJF140_2_14 {b:Int} {a:List G159} (c:a.length+0<=500000000000) (d:0<=b) (e:b<10):Tot (Qp b a) (λr=>match r with|.inl r=>(r.1=b+1/\b<10)/\r.2.length<=a.length+0|.inr r=>r.length<=a.length+0):=tL
theorem tJF140_2_27 {a:Int} {b:List G159} (c:b.length+0<=500000000000) (d:0<=a) (e:a<5):Tot (Qo a b) (λr=>match r with|.inl r=>(r.1=a+1/\a<5)/\r.2.length<=b.length+0|.inr r=>r.length<=b.length+0):=tL
theorem tJF140_2_40 {a:Int} {b:List G159} (c:b.length+0<=500000000000) (d:0<=a) (e:a<3):Tot (Qn a b) (λr=>match r with|.inl r=>(r.1=a+1/\a<3)/\r.2.length<=b.length+0|.inr r=>r.length<=b.length+0):=tL
theorem tLF140_2_50 {d h m g k l} {b:Int} {c:List G159} (a:okG100 d) (f:okG27 k) (n:c.length+1<=500000000000) (p:0<=b) (o:b<=1000):Tot (LF140_2_50 d h m g k l b c) (λr=>match r with|.inl r=>(r.1=b+1/\b<1000)/\r.2.length<=c.length+1|.inr r=>r.length<=c.length+1):=t_bd (λ_=>have j:=(a.fg).le;t_bi (Xi (a.fg) tI tI) λ_ e _=>Xb (tF143_1 e f tI) λ_ _=>Xb (Yb f tI) λ_ _=>tL) λ_=>have i:=(a.fg).le;tL
theorem tLF140_2_37 {f l s n q} {c:Int} {a:List G159} (b:okG95 f) (j:okG27 n) (t:a.length+1001<=500000000000) (v:0<=c) (u:c<=3):Tot (LF140_2_37 f l s n q c a) (λr=>match r with|.inl r=>(r.1=c+1/\c<3)/\r.2.length<=a.length+1001|.inr r=>r.length<=a.length+1001):=t_bd (λ_=>have k:=(b.fh).le;t_bi (Xi (b.fh) tI tI) λ_ g _=>Xb (Xe (λ(d,e)=>d) 1000 (by decide) (λ(d,e)=>(e.length:Int)<=a.length+0+1*d) (T:=λr=>r.length<=a.length+1001) tB tB tZ (λ⟨d,e⟩ p o m=>(by
 try dsimp only at p o m ⊢
 refine(tLF140_2_50 g j tI o m).mono ?_
 exact tM))) λ_ h=>(by
 try dsimp only at h ⊢
 exact(tJF140_2_40 tI tI tI).mono tM)) λ_=>have i:=(b.fh).le;tL
theorem tLF140_2_24 {f q m p} {c:Int} {a:List G159} (b:okG75 f) (i:okG27 m) (s:a.length+4004<=500000000000) (u:0<=c) (t:c<=5):Tot (LF140_2_24 f q m p c a) (λr=>match r with|.inl r=>(r.1=c+1/\c<5)/\r.2.length<=a.length+4004|.inr r=>r.length<=a.length+4004):=t_bd (λ_=>have j:=(b.ff).le;t_bi (Xi (b.ff) tI tI) λ_ g _=>Xb (Xe (λ(d,e)=>d) 3 (by decide) (λ(d,e)=>(e.length:Int)<=a.length+0+1001*d) (T:=λr=>r.length<=a.length+4004) tB tB tZ (λ⟨d,e⟩ o n l=>(by
 try dsimp only at o n l ⊢
 refine(tLF140_2_37 g i tI n l).mono ?_
 exact tM))) λ_ h=>(by
 try dsimp only at h ⊢
 exact(tJF140_2_27 tI tI tI).mono tM)) λ_=>have k:=(b.ff).le;tL
theorem tLF140_2_11 {k n} {g:Int} {d:List G159} (a:okG27 k) (o:d.length+24024<=500000000000) (q:0<=g) (p:g<=10):Tot (LF140_2_11 k n g d) (λr=>match r with|.inl r=>(r.1=g+1/\g<10)/\r.2.length<=d.length+24024|.inr r=>r.length<=d.length+24024):=t_bd (λ_=>have h:=(a.fc).le;t_bi (Xi (a.fc) tI tI) λ_ e _=>Xb (Xe (λ(b,c)=>b) 5 (by decide) (λ(b,c)=>(c.length:Int)<=d.length+0+4004*b) (T:=λr=>r.length<=d.length+24024) tB tB tZ (λ⟨b,c⟩ m l j=>(by
 try dsimp only at m l j ⊢
 refine(tLF140_2_24 e a tI l j).mono ?_
 exact tM))) λ_ f=>(by
 try dsimp only at f ⊢
 exact(tJF140_2_14 tI tI tI).mono tM)) λ_=>have i:=(a.fc).le;tL
theorem tF140_2 {h i} {a:List G159} (e:okG27 h) (k:a.length+264264<=500000000000):Tot (F140_2 h i a) (λr=>r.length<=a.length+264264):=Xb (Xe (λ(b,c)=>b) 10 (by decide) (λ(b,c)=>(c.length:Int)<=a.length+0+24024*b) (T:=λr=>r.length<=a.length+264264) tB tB tZ (λ⟨b,c⟩ j f g=>(by
 try dsimp only at j f g ⊢
 refine(tLF140_2_11 e tI f g).mono ?_
 exact tM))) λ_ d=>(by
 try dsimp only at d ⊢
 exact tL)
theorem tF68_1 {c d} {a:List G159} (b:okG27 c) (e:a.length+264264<=500000000000):Tot (F68_1 c d a) (λr=>r.length<=a.length+264264):=Xb (tF140_2 b tI) λ_ _=>tL
theorem tF224 {a}:Tot (F224 a) (λ_=>True):=tL
theorem tJF222_2_1:Tot (JF222_2_1 ) (λ_=>True):=tL
theorem tLF222_2_8 {e:Sl G182} {b:Int} (a:(OkSl (λ_=>True) 1000) e) (g:0<=b) (f:b<=1000):Tot (LF222_2_8 e b) (λr=>match r with|.inl r=>(r=b+1/\b<1000)|.inr (.inl r)=>True|.inr (.inr r)=>True):=t_bd (λ_=>have c:=(a).le;t_bi (Xi a tI tI) λ_ _ _=>Xb (tF224) λ_ _=>Xc (λ_=>tL) λ_=>tL) λ_=>have d:=(a).le;tL
theorem tF222_2 {d:Sl G182} (b:(OkSl (λ_=>True) 1000) d):Tot (F222_2 d) (λ_=>True):=Xb (Xe (λc=>c) 1000 (by decide) (λc=>True) (T:=tru) tB tB tZ (λ_ _ e f=>(tLF222_2_8 b e f).mono tM)) ((by
 rintro(g|⟨⟩) a
 ·try dsimp only at a ⊢
  exact tL
 ·try dsimp only at a ⊢
  exact tJF222_2_1))
theorem tF146_2 {b:Sl G182} (a:(OkSl (λ_=>True) 1000) b):Tot (F146_2 b) (λ_=>True):=Xb (tF222_2 a) λ_ _=>tL
theorem tF151 {b} (a:okG147 b):Tot (F151 b) (λ_=>True):=t_be (λ_=>Xb (tF146_2 (a.fD).mono) λ_ _=>tL) λ_=>tL
theorem tJF226_5 {d:G27} {f:Int} {g:Int} {s:Int} {j:Bool} (o:okG27 d) (v:j=false->(0<=f/\f<ln d.fc)) (w:j=false->(∀ c,gx (Sl.es d.fc) f=some c->0<=g/\g<ln c.ff)) (u:j=false->(∀ c,gx (Sl.es d.fc) f=some c->∀ h,gx (Sl.es c.ff) g=some h->0<=s/\s<ln h.fh)):Tot (Vq d f g s j) (λr=>(ln r<=1000/\∀ y∈Sl.es r,okG147 y)):=Xc (λ_=>tL) λa=>have t:=v a;t_bi (Xi (o.fc) tI tI) λc p e=>have l:=w a c e;t_bi (Xi (p.ff) tI tI) λh m q=>have k:=u a c e h q;t_bi (Xi (m.fh) tI tI) λ_ b _=>have n:=(b.fg).le;have i:=(b.fg).2;tL
theorem tF226 {v0 v1 v2 v3} (a:okG27 v0):Tot (F226 v0 v1 v2 v3) (λr=>(ln r<=1000/\∀ y∈Sl.es r,okG147 y)):=t_bd (λ_=>(tJF226_5 a (by intros;simp_all only [Bool.false_eq_true,Bool.true_eq_false,reduceCtorEq]) (by intros;simp_all only [Bool.false_eq_true,Bool.true_eq_false,reduceCtorEq]) (by intros;simp_all only [Bool.false_eq_true,Bool.true_eq_false,reduceCtorEq])).mono tM) λ_=>t_bd (λ_=>have l:=(a.fc).le;(tJF226_5 a (by intros;simp_all only [Bool.false_eq_true,Bool.true_eq_false,reduceCtorEq]) (by intros;simp_all only [Bool.false_eq_true,Bool.true_eq_false,reduceCtorEq]) (by intros;simp_all only [Bool.false_eq_true,Bool.true_eq_false,reduceCtorEq])).mono tM) λ_=>have k:=(a.fc).le;t_bd (λ_=>(tJF226_5 a (by intros;simp_all only [Bool.false_eq_true,Bool.true_eq_false,reduceCtorEq]) (by intros;simp_all only [Bool.false_eq_true,Bool.true_eq_false,reduceCtorEq]) (by intros;simp_all only [Bool.false_eq_true,Bool.true_eq_false,reduceCtorEq])).mono tM) λ_=>t_bi (Xi (a.fc) tI tI) λ_ c b=>t_bd (λ_=>have n:=(c.ff).le;(tJF226_5 a (by intros;simp_all only [Bool.false_eq_true,Bool.true_eq_false,reduceCtorEq]) (by intros;simp_all only [Bool.false_eq_true,Bool.true_eq_false,reduceCtorEq]) (by intros;simp_all only [Bool.false_eq_true,Bool.true_eq_false,reduceCtorEq])).mono tM) λ_=>have j:=(c.ff).le;t_bd (λ_=>(tJF226_5 a (by intros;simp_all only [Bool.false_eq_true,Bool.true_eq_false,reduceCtorEq]) (by intros;simp_all only [Bool.false_eq_true,Bool.true_eq_false,reduceCtorEq]) (by intros;simp_all only [Bool.false_eq_true,Bool.true_eq_false,reduceCtorEq])).mono tM) λ_=>t_bi (Xi (a.fc) tI tI) λ_ _ h=>(by
 obtain rfl:=Option.some.inj (b.symm.trans h)
 refine t_bi (Xi (c.ff) tI tI) λo g i=>?_
 have m:=(g.fh).le
 exact(tJF226_5 a (by intro f;replace f:=of_decide_eq_false f;exact tI) (by intro e;replace e:=of_decide_eq_false e;exact(oq b tI)) (by intro d;replace d:=of_decide_eq_false d;exact(oq b (oq i tI)))).mono tM)
theorem tJF225_4 {a}:Tot (JF225_4 a) (λ_=>True):=Xc (λ_=>tL) λ_=>tL
theorem tF225 {v0 v1} (a:okG27 v0):Tot (F225 v0 v1) (λ_=>True):=t_bn (λ_=>tL) λ_=>t_bd (λ_=>tJF225_4) λ_=>Xb (tF226 a) λ_ _=>tJF225_4
theorem tF227 {d a b c}:Tot (F227 d a b c) (λ_=>True):=tL
theorem tF152 {v0 v1} (c:okG27 v0):Tot (F152 v0 v1) (λ_=>True):=Xb (tF225 c) λ_ _=>t_bn (λ_=>tL) λ_=>Xb (tF226 c) λ_ b=>t_bd (λ_=>have d:=(OkSl.mk2 (n:=1000) b.1 b.2).le;Xb (tF227) λ_ _=>tL) λ_=>have f:=(OkSl.mk2 (n:=1000) b.1 b.2).le;Xb (tF226 c) λ_ a=>t_bd (λ_=>have e:=(OkSl.mk2 (n:=1000) a.1 a.2).le;Xb (tF227) λ_ _=>tL) λ_=>have g:=(OkSl.mk2 (n:=1000) a.1 a.2).le;tL
theorem tF288 {c:Sl G182} (b:(OkSl (λ_=>True) 1000) c):Tot (F288 c) (λr=>ln r<=1000):=Xc (λ_=>tL) λ_=>Xc (λ_=>tL) λ_=>have a:=(b).le;Xb (t_gappC tI) λd _=>(by
 subst d
 exact tL)
theorem tF289 {c:Sl G245} (b:(OkSl (λ_=>True) 1000) c):Tot (F289 c) (λr=>ln r<=1000):=Xc (λ_=>tL) λ_=>Xc (λ_=>tL) λ_=>have a:=(b).le;Xb (t_gappC tI) λd _=>(by
 subst d
 exact tL)
theorem tF290 {c:Sl G171} (a:(OkSl okG171 1000) c):Tot (F290 c) (λr=>(ln r<=1000/\∀ y∈Sl.es r,okG171 y)):=Xc (λ_=>tL) λ_=>Xc (λ_=>tL) λ_=>have b:=(a).le;Xb (t_gappC tI) λd _=>(by
 subst d
 have e:=(a).2
 exact tL)
theorem tF228 {c} (a:okG147 c):Tot (F228 c) (λr=>okG147 r):=Xb (tF288 (a.fD).mono) λd _=>Xb (tF289 (a.fS).mono) λe _=>Xb (tF290 (a.fv).mono) λ_ b=>Xd ⟨OkSl.tr (s:=d) (n:=1000) tI,OkSl.tr (s:=e) (n:=1000) tI,OkSl.mk2 (n:=1000) b.1 b.2⟩
theorem F34_zero {s:G27} {p:G236} (h:F225 s p=some 0):0<=p.f9/\∀ v,F226 s p.fo p.fC p.fB=some v->p.f9<ln v:=by
 unfold F225 at h
 cases h1:(p.fq !=4)with
 |true=>rw[h1]at h;have:=Option.some.inj h;omega
 |false=>
  rw[h1]at h
  cases h2:decide (p.f9<0)with
  |true=>rw[h2]at h;have:=Option.some.inj h;omega
  |false=>
   rw[h2]at h
   refine⟨by have:=of_decide_eq_false h2;omega,λv b=>?_⟩
   simp only[cond_false]at h
   obtain⟨r,hr,a⟩:=Xa h
   unfold JF225_4 at a
   cases hr.symm.trans b
   cases h3:decide (p.f9>=ln v)with
   |true=>rw[h3]at a;have:=Option.some.inj a;omega
   |false=>have:=of_decide_eq_false h3;omega
theorem tF153 {d b} (e:okG27 d):Tot (F153 d b) (λr=>okG147 r.1/\True):=by
 unfold F153
 obtain⟨z,h,_⟩:=tF225 (v0:=d) (v1:=b) e
 rw[h]
 simp only[Option.bind_some]
 refine Xc (λc=>?_) (λc=>?_)
 ·exact Xd ⟨⟨OkSl.nil,OkSl.nil,OkSl.nil⟩,trivial⟩
 ·have m:z=0:=by simpa using c
  subst m
  obtain⟨j,k⟩:=F34_zero h
  obtain⟨l,g,i⟩:=tF226 (v0:=d) (v1:=b.fo) (v2:=b.fC) (v3:=b.fB) e
  rw[g]
  simp only[Option.bind_some]
  refine Xb (Xi (show OkSl okG147 1000 l from i) j (k _ g)) λo f=>?_
  refine Xb (tF228 f.1) λn a=>?_
  exact Xd ⟨⟨a.fD,a.fS,a.fv⟩,trivial⟩
theorem tF229_1 {b a}:Tot (F229_1 b a) (λ_=>True):=tL
theorem tJF222_3_2:Tot (JF222_3_2 ) (λ_=>True):=tL
theorem tLF222_3_9 {e:Sl G182} {f} {b:Int} (a:(OkSl (λ_=>True) 1000) e) (h:0<=b) (g:b<=1000):Tot (LF222_3_9 e f b) (λr=>match r with|.inl r=>(r=b+1/\b<1000)|.inr (.inl r)=>True|.inr (.inr r)=>True):=t_bd (λ_=>have d:=(a).le;t_bi (Xi a tI tI) λ_ _ _=>Xb (tF229_1) λ_ _=>Xc (λ_=>tL) λ_=>tL) λ_=>have c:=(a).le;tL
theorem tF222_3 {c:Sl G182} {f} (b:(OkSl (λ_=>True) 1000) c):Tot (F222_3 c f) (λ_=>True):=Xb (Xe (λd=>d) 1000 (by decide) (λd=>True) (T:=tru) tB tB tZ (λ_ _ e g=>(tLF222_3_9 b e g).mono tM)) ((by
 rintro(h|⟨⟩) a
 ·try dsimp only at a ⊢
  exact tL
 ·try dsimp only at a ⊢
  exact tJF222_3_2))
theorem tF146_3 {b:Sl G182} {c} (a:(OkSl (λ_=>True) 1000) b):Tot (F146_3 b c) (λ_=>True):=Xb (tF222_3 a) λ_ _=>tL
theorem tJF154_3:Tot (JF154_3 ) (λ_=>True):=tL
theorem tJF154_14 {a:Int} {b} (c:0<=a) (d:a<1000):Tot (JF154_14 a b) (λr=>match r with|.inl r=>(r=a+1/\a<1000)|.inr (.inl r)=>True|.inr (.inr r)=>True):=Xc (λ_=>tL) λ_=>tL
theorem tLF154_9 {g f} {b:Int} (a:okG147 g) (e:okG147 f) (i:0<=b) (h:b<=1000):Tot (LF154_9 g f b) (λr=>match r with|.inl r=>(r=b+1/\b<1000)|.inr (.inl r)=>True|.inr (.inr r)=>True):=t_bd (λ_=>have c:=(a.fD).le;t_bi (Xi (a.fD) tI tI) λ_ _ _=>Xc (λ_=>t_be (λ_=>Xb (tF146_3 (e.fD).mono) λ_ _=>(tJF154_14 tI tI).mono tM) λ_=>(tJF154_14 tI tI).mono tM) λ_=>(tJF154_14 tI tI).mono tM) λ_=>have d:=(a.fD).le;tL
theorem tF154 {e d} (c:okG147 e) (b:okG147 d):Tot (F154 e d) (λ_=>True):=t_bn (λ_=>tL) λ_=>Xb (Xe (λf=>f) 1000 (by decide) (λf=>True) (T:=tru) tB tB tZ (λ_ _ g h=>(tLF154_9 c b g h).mono tM)) ((by
 rintro(⟨⟩|⟨⟩) a
 ·try dsimp only at a ⊢
  exact tL
 ·try dsimp only at a ⊢
  exact tJF154_3))
theorem tF150_1 {n q l r s o k h i m} {d:List G159} (c:okG147 h) (f:okG27 i) (t:d.length+0<=500000000000):Tot (F150_1 n q l r s o k h i m d) (λ_=>True):=Xb (tF151 c) λ_ _=>Xc (λ_=>tL) λ_=>Xb (tF152 f) λ_ _=>Xb (tF153 f) λ_ b=>(by
 obtain⟨a,g⟩:=b
 refine Xc (λe=>?_) λe=>?_
 ·exact tL
 ·refine Xb (tF154 c a) λp j=>?_
  exact tL)
theorem tJF140_3_14 {b:Int} {a:List G159} (c:a.length+0<=500000000000) (d:0<=b) (e:b<10):Tot (Qm b a) (λr=>match r with|.inl r=>(r.1=b+1/\b<10)/\r.2.length<=a.length+0|.inr r=>r.length<=a.length+0):=tL
theorem tJF140_3_27 {a:Int} {b:List G159} (c:b.length+0<=500000000000) (d:0<=a) (e:a<5):Tot (Ql a b) (λr=>match r with|.inl r=>(r.1=a+1/\a<5)/\r.2.length<=b.length+0|.inr r=>r.length<=b.length+0):=tL
theorem tJF140_3_40 {a:Int} {b:List G159} (c:b.length+0<=500000000000) (d:0<=a) (e:a<3):Tot (Qk a b) (λr=>match r with|.inl r=>(r.1=a+1/\a<3)/\r.2.length<=b.length+0|.inr r=>r.length<=b.length+0):=tL
theorem tLF140_3_50 {d h m g k l} {b:Int} {c:List G159} (a:okG100 d) (f:okG27 k) (n:c.length+1<=500000000000) (p:0<=b) (o:b<=1000):Tot (LF140_3_50 d h m g k l b c) (λr=>match r with|.inl r=>(r.1=b+1/\b<1000)/\r.2.length<=c.length+1|.inr r=>r.length<=c.length+1):=t_bd (λ_=>have j:=(a.fg).le;t_bi (Xi (a.fg) tI tI) λ_ e _=>Xb (tF150_1 e f tI) λ_ _=>Xb (Yb f tI) λ_ _=>tL) λ_=>have i:=(a.fg).le;tL
theorem tLF140_3_37 {f k s n q} {c:Int} {a:List G159} (b:okG95 f) (j:okG27 n) (t:a.length+1001<=500000000000) (v:0<=c) (u:c<=3):Tot (LF140_3_37 f k s n q c a) (λr=>match r with|.inl r=>(r.1=c+1/\c<3)/\r.2.length<=a.length+1001|.inr r=>r.length<=a.length+1001):=t_bd (λ_=>have l:=(b.fh).le;t_bi (Xi (b.fh) tI tI) λ_ g _=>Xb (Xe (λ(d,e)=>d) 1000 (by decide) (λ(d,e)=>(e.length:Int)<=a.length+0+1*d) (T:=λr=>r.length<=a.length+1001) tB tB tZ (λ⟨d,e⟩ p o m=>(by
 try dsimp only at p o m ⊢
 refine(tLF140_3_50 g j tI o m).mono ?_
 exact tM))) λ_ h=>(by
 try dsimp only at h ⊢
 exact(tJF140_3_40 tI tI tI).mono tM)) λ_=>have i:=(b.fh).le;tL
theorem tLF140_3_24 {f q m p} {c:Int} {a:List G159} (b:okG75 f) (i:okG27 m) (s:a.length+4004<=500000000000) (u:0<=c) (t:c<=5):Tot (LF140_3_24 f q m p c a) (λr=>match r with|.inl r=>(r.1=c+1/\c<5)/\r.2.length<=a.length+4004|.inr r=>r.length<=a.length+4004):=t_bd (λ_=>have k:=(b.ff).le;t_bi (Xi (b.ff) tI tI) λ_ g _=>Xb (Xe (λ(d,e)=>d) 3 (by decide) (λ(d,e)=>(e.length:Int)<=a.length+0+1001*d) (T:=λr=>r.length<=a.length+4004) tB tB tZ (λ⟨d,e⟩ o n l=>(by
 try dsimp only at o n l ⊢
 refine(tLF140_3_37 g i tI n l).mono ?_
 exact tM))) λ_ h=>(by
 try dsimp only at h ⊢
 exact(tJF140_3_27 tI tI tI).mono tM)) λ_=>have j:=(b.ff).le;tL
theorem tLF140_3_11 {k n} {g:Int} {d:List G159} (a:okG27 k) (o:d.length+24024<=500000000000) (q:0<=g) (p:g<=10):Tot (LF140_3_11 k n g d) (λr=>match r with|.inl r=>(r.1=g+1/\g<10)/\r.2.length<=d.length+24024|.inr r=>r.length<=d.length+24024):=t_bd (λ_=>have i:=(a.fc).le;t_bi (Xi (a.fc) tI tI) λ_ e _=>Xb (Xe (λ(b,c)=>b) 5 (by decide) (λ(b,c)=>(c.length:Int)<=d.length+0+4004*b) (T:=λr=>r.length<=d.length+24024) tB tB tZ (λ⟨b,c⟩ m l j=>(by
 try dsimp only at m l j ⊢
 refine(tLF140_3_24 e a tI l j).mono ?_
 exact tM))) λ_ f=>(by
 try dsimp only at f ⊢
 exact(tJF140_3_14 tI tI tI).mono tM)) λ_=>have h:=(a.fc).le;tL
theorem tF140_3 {h i} {a:List G159} (e:okG27 h) (k:a.length+264264<=500000000000):Tot (F140_3 h i a) (λr=>r.length<=a.length+264264):=Xb (Xe (λ(b,c)=>b) 10 (by decide) (λ(b,c)=>(c.length:Int)<=a.length+0+24024*b) (T:=λr=>r.length<=a.length+264264) tB tB tZ (λ⟨b,c⟩ j f g=>(by
 try dsimp only at j f g ⊢
 refine(tLF140_3_11 e tI f g).mono ?_
 exact tM))) λ_ d=>(by
 try dsimp only at d ⊢
 exact tL)
theorem tF69_1 {c d} {a:List G159} (b:okG27 c) (e:a.length+264264<=500000000000):Tot (F69_1 c d a) (λr=>r.length<=a.length+264264):=Xb (tF140_3 b tI) λ_ _=>tL
theorem tF230 {v0} {v1:Int} (a:okG147 v0) (d:0<=v1):Tot (F230 v0 v1) (λ_=>True):=t_bd (λ_=>have c:=(a.fv).le;tL) λ_=>have b:=(a.fv).le;t_bi (Xi (a.fv) tI tI) λ_ _ _=>tL
theorem tJF155_1_16 {g h c f e d a b} (j:GM.ok g) (i:(OkB) h):Tot (JF155_1_16 g h c f e d a b) (λr=>GM.ok r):=t_be (λ_=>tL) λ_=>tL
theorem tJF155_1_49 {a:Int} {b c e f g h d i} (k:GM.ok b) (j:(OkB) c) (m:0<=a) (l:a<10):Tot (JF155_1_49 a b c e f g h d i) (λr=>match r with|.inl r=>(r.1=a+1/\a<10)/\GM.ok r.2.1/\(OkB) r.2.2.1/\True/\True/\True/\True/\True/\True|.inr r=>GM.ok r.1/\(OkB) r.2.1/\True/\True/\True/\True/\True/\True):=tL
theorem tJF155_1_90 {a:Int} {b c h e f d g i} (k:GM.ok b) (j:(OkB) c) (l:0<=a) (m:a<1000):Tot (JF155_1_90 a b c h e f d g i) (λr=>match r with|.inl r=>(r.1=a+1/\a<1000)/\GM.ok r.2.1/\(OkB) r.2.2.1/\True/\True/\True/\True/\True/\True|.inr r=>GM.ok r.1/\(OkB) r.2.1/\True/\True/\True/\True/\True/\True):=tL
theorem tJF155_1_101 {a:Int} {d h e g b} (c:okG171 d) (f:GM.ok b) (i:0<=a) (j:a<1000):Tot (Qz a d h e g b) (λr=>match r with|.inl r=>(r.1=a+1/\a<1000)/\GM.ok r.2.1/\(OkB) r.2.2.1/\True/\True/\True/\True/\True/\True|.inr r=>GM.ok r.1/\(OkB) r.2.1/\True/\True/\True/\True/\True/\True):=(tJF155_1_90 (by first|assumption|exact Yg (by assumption)|exact gm0) c.fP tI tI).mono tM
theorem tJF155_1_103 {a:Int} {e i f h d c} (b:okG171 e) (g:GM.ok d) (j:0<=a) (k:a<1000):Tot (Vz a e i f h d c) (λr=>match r with|.inl r=>(r.1=a+1/\a<1000)/\GM.ok r.2.1/\(OkB) r.2.2.1/\True/\True/\True/\True/\True/\True|.inr r=>GM.ok r.1/\(OkB) r.2.1/\True/\True/\True/\True/\True/\True):=Xc (λ_=>(tJF155_1_101 b (by first|assumption|exact Yg (by assumption)|exact gm0) tI tI).mono tM) λ_=>(tJF155_1_101 b (by first|assumption|exact Yg (by assumption)|exact gm0) tI tI).mono tM
theorem tJF155_1_99 {c} {b:Int} {i e h f d} (a:okG171 c) (g:GM.ok d) (k:0<=b) (j:b<1000):Tot (JF155_1_99 c b i e h f d) (λr=>match r with|.inl r=>(r.1=b+1/\b<1000)/\GM.ok r.2.1/\(OkB) r.2.2.1/\True/\True/\True/\True/\True/\True|.inr r=>GM.ok r.1/\(OkB) r.2.1/\True/\True/\True/\True/\True/\True):=t_be (λ_=>t_be (λ_=>(tJF155_1_103 a (by first|assumption|exact Yg (by assumption)|exact gm0) tI tI).mono tM) λ_=>(tJF155_1_103 a (by first|assumption|exact Yg (by assumption)|exact gm0) tI tI).mono tM) λ_=>(tJF155_1_103 a (by first|assumption|exact Yg (by assumption)|exact gm0) tI tI).mono tM
theorem tJF155_1_108 {e} {a:Int} {n j o l c h g k f i d} (b:okG171 e) (m:GM.ok c) (q:0<=a) (p:a<1000):Tot (Qy e a n j o l c h g k f i d) (λr=>match r with|.inl r=>(r.1=a+1/\a<1000)/\GM.ok r.2.1/\(OkB) r.2.2.1/\True/\True/\True/\True/\True/\True|.inr r=>GM.ok r.1/\(OkB) r.2.1/\True/\True/\True/\True/\True/\True):=Xc (λ_=>(tJF155_1_99 b (by first|assumption|exact Yg (by assumption)|exact gm0) tI tI).mono tM) λ_=>(tJF155_1_99 b (by first|assumption|exact Yg (by assumption)|exact gm0) tI tI).mono tM
theorem F158_no {b:G147} {a:Int} (h:F230 b a=some false):a<ln b.fv:=by
 unfold F230 at h
 cases hc:decide (a>=(ln b.fv))with
 |true=>rw[hc]at h;cases h
 |false=>have:=of_decide_eq_false hc;omega
theorem tLF155_1_80 {j} {n:Int} {v q y} {a:Int} {g i t o l s k p} (e:okG100 j) (c:GM.ok g) (h:(OkB) i) (w:0<=n) (C:0<=a) (B:a<=1000):Tot (LF155_1_80 j n v q y a g i t o l s k p) (λr=>match r with|.inl r=>(r.1=a+1/\a<1000)/\GM.ok r.2.1/\(OkB) r.2.2.1/\True/\True/\True/\True/\True/\True|.inr r=>GM.ok r.1/\(OkB) r.2.1/\True/\True/\True/\True/\True/\True):=t_bd (λ_=>have lc:=(e.fg).le;t_bi (Xi (e.fg) tI tI) λm d _=>(by
 obtain⟨b,u,_⟩:=tF230 (v0:=m) (v1:=n) d w
 rw[u]
 cases b with
 |true=>
  simp only[Option.bind_some,cond_true]
  exact(tJF155_1_90 c h tI tI).mono tM
 |false=>
  simp only[Option.bind_some,cond_false]
  refine t_bi (Xi (d.fv) w (F158_no u)) λA f x=>?_
  refine Xc (λz=>?_) (λz=>?_)
  ·exact(tJF155_1_108 f c tI tI).mono tM
  ·exact(tJF155_1_108 f c tI tI).mono tM)) (λ_=>tL)
theorem tJF155_1_53 {b:Int} {w l Q J K O M I} {c:G75} {A:Int} {P:Int} {S:Int} {d:Bool} (R:GM.ok w) (s:(OkB) l) (t:okG75 c) (q0:d=false->(0<=A/\A<ln c.ff)) (q1:d=false->(∀ e,gx (Sl.es c.ff) A=some e->0<=P/\P<ln e.fh)) (q2:d=false->(0<=S)) (b0:0<=b) (b1:b<10):Tot (JF155_1_53 b w l Q J K O M I c A P S d) (λr=>match r with|.inl r=>(r.1=b+1/\b<10)/\GM.ok r.2.1/\(OkB) r.2.2.1/\True/\True/\True/\True/\True/\True|.inr r=>GM.ok r.1/\(OkB) r.2.1/\True/\True/\True/\True/\True/\True):=Xc (λ_=>(tJF155_1_49 (by first|assumption|exact Yg (by assumption)|exact gm0) s tI tI).mono tM) λa=>have L:=q0 a;t_bi (Xi (t.ff) tI tI) λe v k=>have H:=q1 a e k;t_bi (Xi (v.fh) tI tI) λ_ j _=>have N:=q2 a;Xb (Xe (λ(i,g,h,x,m,p,o,q,u)=>i) 1000 (by decide) (λ(i,g,h,x,m,p,o,q,u)=>GM.ok g/\OkB h) (T:=λr=>GM.ok r.1/\OkB r.2.1/\True/\True/\True/\True/\True/\True) tB tB tZ (λ⟨i,g,h,x,m,p,o,q,u⟩ f h0 h1=>(tLF155_1_80 j (by first|exact f|exact f.1|exact f.2|exact f.2.1) (by first|exact f|exact f.1|exact f.2|exact f.2.1) tW h0 h1).mono tM)) λ⟨Z,V,aa,ab,U,Y,W,X⟩ n=>(by
 obtain⟨F,z,y,D,E,B,G,C⟩:=n
 exact(tJF155_1_49 (by first|assumption|exact Yg (by assumption)|exact gm0) (by first|assumption|exact hbad) tI tI).mono tM)
theorem tLF155_1_39 {z} {y:Int} {B:Int} {A:Int} {b:Int} {k j w m n u p l} (g:okG27 z) (x:GM.ok k) (d:(OkB) j) (F:0<=y) (G:0<=B) (D:0<=A) (C:0<=b) (E:b<=10):Tot (LF155_1_39 z y B A b k j w m n u p l) (λr=>match r with|.inl r=>(r.1=b+1/\b<10)/\GM.ok r.2.1/\(OkB) r.2.2.1/\True/\True/\True/\True/\True/\True|.inr r=>GM.ok r.1/\(OkB) r.2.1/\True/\True/\True/\True/\True/\True):=t_bd (λ_=>have s:=(g.fc).le;t_bi (Xi (g.fc) tI tI) λ_ a _=>t_bd (λ_=>have t:=(a.ff).le;(tJF155_1_53 (by first|assumption|exact Yg (by assumption)|exact gm0) d a (by intros;simp_all only [Bool.false_eq_true,Bool.true_eq_false,reduceCtorEq]) (by intros;simp_all only [Bool.false_eq_true,Bool.true_eq_false,reduceCtorEq]) (by intros;simp_all only [Bool.false_eq_true,Bool.true_eq_false,reduceCtorEq]) tI tI).mono tM) λ_=>have o:=(a.ff).le;t_bi (Xi (a.ff) tI tI) λ_ i h=>have v:=(i.fh).le;(tJF155_1_53 (by first|assumption|exact Yg (by assumption)|exact gm0) d a (by intro e;replace e:=of_decide_eq_false e;exact tI) (by intro c;replace c:=of_decide_eq_false c;exact(oq h tI)) (by intro f;replace f:=of_decide_eq_false f;exact tW) tI tI).mono tM) λ_=>have q:=(g.fc).le;tL
theorem tF155_1 {w:Int} {A:Int} {y:Int} {x E} {z:List G159} {v} (u:okG27 x) (K:GM.ok v) (N:z.length+0<=500000000000) (P:0<=w) (Q:0<=A) (O:0<=y):Tot (F155_1 w A y x E z v) (λr=>GM.ok r):=Xb (Xe (λ(c,d,b,k,f,g,j,i,e)=>c) 10 (by decide) (λ(c,d,b,k,f,g,j,i,e)=>GM.ok d/\OkB b) (T:=λr=>GM.ok r.1/\OkB r.2.1/\True/\True/\True/\True/\True/\True) tB tB tZ (λ⟨c,d,b,k,f,g,j,i,e⟩ a J H=>(tLF155_1_39 u (by first|exact a|exact a.1|exact a.2|exact a.2.1) (by first|exact a|exact a.1|exact a.2|exact a.2.1) tW tW tW J H).mono tM)) λ⟨I,F,D,C,G,B,M,L⟩ h=>(by
 obtain⟨n,t,p,q,m,o,s,l⟩:=h
 exact(tJF155_1_16 (by first|assumption|exact Yg (by assumption)|exact gm0) (by first|assumption|exact hbad)).mono tM)
theorem tF156_1 {j h e f k d c a b} (g:okG147 a) (i:GM.ok b):Tot (F156_1 j h e f k d c a b) (λ_=>True):=Xb (t_gmGet (by assumption)) λ_ _=>tL
theorem tJF140_4_15 {b:Int} {a:List G159} (c:a.length+0<=500000000000) (d:0<=b) (e:b<10):Tot (Qj b a) (λr=>match r with|.inl r=>(r.1=b+1/\b<10)/\r.2.length<=a.length+0|.inr r=>r.length<=a.length+0):=tL
theorem tJF140_4_28 {a:Int} {b:List G159} (c:b.length+0<=500000000000) (d:0<=a) (e:a<5):Tot (Qi a b) (λr=>match r with|.inl r=>(r.1=a+1/\a<5)/\r.2.length<=b.length+0|.inr r=>r.length<=b.length+0):=tL
theorem tJF140_4_41 {a:Int} {b:List G159} (c:b.length+0<=500000000000) (d:0<=a) (e:a<3):Tot (Qh a b) (λr=>match r with|.inl r=>(r.1=a+1/\a<3)/\r.2.length<=b.length+0|.inr r=>r.length<=b.length+0):=tL
theorem tLF140_4_51 {e i n f l k o} {a:Int} {c:List G159} (b:okG100 e) (m:GM.ok l) (g:okG27 k) (p:c.length+1<=500000000000) (s:0<=a) (q:a<=1000):Tot (LF140_4_51 e i n f l k o a c) (λr=>match r with|.inl r=>(r.1=a+1/\a<1000)/\r.2.length<=c.length+1|.inr r=>r.length<=c.length+1):=t_bd (λ_=>have j:=(b.fg).le;t_bi (Xi (b.fg) tI tI) λ_ d _=>Xb (tF156_1 d (by first|assumption|exact Yg (by assumption)|exact gm0)) λ_ _=>Xb (Yb g tI) λ_ _=>tL) λ_=>have h:=(b.fg).le;tL
theorem tLF140_4_38 {g k t p n u} {b:Int} {a:List G159} (c:okG95 g) (q:GM.ok p) (i:okG27 n) (v:a.length+1001<=500000000000) (x:0<=b) (w:b<=3):Tot (LF140_4_38 g k t p n u b a) (λr=>match r with|.inl r=>(r.1=b+1/\b<3)/\r.2.length<=a.length+1001|.inr r=>r.length<=a.length+1001):=t_bd (λ_=>have l:=(c.fh).le;t_bi (Xi (c.fh) tI tI) λ_ h _=>Xb (Xe (λ(d,e)=>d) 1000 (by decide) (λ(d,e)=>(e.length:Int)<=a.length+0+1*d) (T:=λr=>r.length<=a.length+1001) tB tB tZ (λ⟨d,e⟩ s o m=>(by
 try dsimp only at s o m ⊢
 refine(tLF140_4_51 h (by assumption) i tI o m).mono ?_
 exact tM))) λ_ f=>(by
 try dsimp only at f ⊢
 exact(tJF140_4_41 tI tI tI).mono tM)) λ_=>have j:=(c.fh).le;tL
theorem tLF140_4_25 {f s o m t} {b:Int} {a:List G159} (c:okG75 f) (p:GM.ok o) (i:okG27 m) (u:a.length+4004<=500000000000) (w:0<=b) (v:b<=5):Tot (LF140_4_25 f s o m t b a) (λr=>match r with|.inl r=>(r.1=b+1/\b<5)/\r.2.length<=a.length+4004|.inr r=>r.length<=a.length+4004):=t_bd (λ_=>have k:=(c.ff).le;t_bi (Xi (c.ff) tI tI) λ_ g _=>Xb (Xe (λ(d,e)=>d) 3 (by decide) (λ(d,e)=>(e.length:Int)<=a.length+0+1001*d) (T:=λr=>r.length<=a.length+4004) tB tB tZ (λ⟨d,e⟩ q n l=>(by
 try dsimp only at q n l ⊢
 refine(tLF140_4_38 g (by assumption) i tI n l).mono ?_
 exact tM))) λ_ h=>(by
 try dsimp only at h ⊢
 exact(tJF140_4_28 tI tI tI).mono tM)) λ_=>have j:=(c.ff).le;tL
theorem tLF140_4_12 {k m p} {f:Int} {d:List G159} (a:okG27 k) (n:GM.ok m) (q:d.length+24024<=500000000000) (t:0<=f) (s:f<=10):Tot (LF140_4_12 k m p f d) (λr=>match r with|.inl r=>(r.1=f+1/\f<10)/\r.2.length<=d.length+24024|.inr r=>r.length<=d.length+24024):=t_bd (λ_=>have h:=(a.fc).le;t_bi (Xi (a.fc) tI tI) λ_ e _=>Xb (Xe (λ(b,c)=>b) 5 (by decide) (λ(b,c)=>(c.length:Int)<=d.length+0+4004*b) (T:=λr=>r.length<=d.length+24024) tB tB tZ (λ⟨b,c⟩ o l j=>(by
 try dsimp only at o l j ⊢
 refine(tLF140_4_25 e (by assumption) a tI l j).mono ?_
 exact tM))) λ_ g=>(by
 try dsimp only at g ⊢
 exact(tJF140_4_15 tI tI tI).mono tM)) λ_=>have i:=(a.fc).le;tL
theorem tF140_4 {h k} {a:List G159} {i} (d:okG27 h) (j:GM.ok i) (m:a.length+264264<=500000000000):Tot (F140_4 h k a i) (λr=>r.length<=a.length+264264):=Xb (Xe (λ(b,c)=>b) 10 (by decide) (λ(b,c)=>(c.length:Int)<=a.length+0+24024*b) (T:=λr=>r.length<=a.length+264264) tB tB tZ (λ⟨b,c⟩ l f g=>(by
 try dsimp only at l f g ⊢
 refine(tLF140_4_12 d (by assumption) tI f g).mono ?_
 exact tM))) λ_ e=>(by
 try dsimp only at e ⊢
 exact tL)
theorem tJF70_1_7 {d f} {a:List G159} {c} (b:okG27 d) (e:GM.ok c) (g:a.length+264264<=500000000000):Tot (JF70_1_7 d f a c) (λr=>r.length<=a.length+264264):=Xb (tF140_4 b (by first|assumption|exact Yg (by assumption)|exact gm0) tI) λ_ _=>tL
theorem tJF70_1_24 {a:Int} {b} (c:GM.ok b) (d:0<=a) (e:a<1000):Tot (JF70_1_24 a b) (λr=>match r with|.inl r=>(r.1=a+1/\a<1000)/\GM.ok r.2|.inr r=>GM.ok r):=tL
theorem tJF70_1_35 {a:Int} {b} (c:GM.ok b) (d:0<=a) (e:a<2):Tot (JF70_1_35 a b) (λr=>match r with|.inl r=>(r.1=a+1/\a<2)/\GM.ok r.2|.inr r=>GM.ok r):=tL
theorem tLF70_1_43 {c:Int} {d:Int} {h i} {f:List G159} {a:Int} {b} (e:okG27 h) (g:GM.ok b) (j:f.length+0<=500000000000) (l:0<=c) (m:0<=d) (n:0<=a) (k:a<=4):Tot (LF70_1_43 c d h i f a b) (λr=>match r with|.inl r=>(r.1=a+1/\a<4)/\GM.ok r.2|.inr r=>GM.ok r):=t_bd (λ_=>Xb (tF155_1 e (by first|assumption|exact Yg (by assumption)|exact gm0) tI tW tW tW) λ_ _=>tL) λ_=>tL
theorem tLF70_1_32 {e:Int} {j m} {h:List G159} {a:Int} {d} (g:okG27 j) (i:GM.ok d) (n:h.length+0<=500000000000) (p:0<=e) (q:0<=a) (o:a<=2):Tot (LF70_1_32 e j m h a d) (λr=>match r with|.inl r=>(r.1=a+1/\a<2)/\GM.ok r.2|.inr r=>GM.ok r):=t_bd (λ_=>Xb (Xe (λ(c,b)=>c) 4 (by decide) (λ(c,b)=>GM.ok b) (T:=λr=>GM.ok r) tB tB tZ (λ⟨c,b⟩ f l k=>(tLF70_1_43 g (by first|exact f|exact f.1|exact f.2|exact f.2.1) tI tW tW l k).mono tM)) λ_ _=>(tJF70_1_35 (by first|assumption|exact Yg (by assumption)|exact gm0) tI tI).mono tM) λ_=>tL
theorem tLF70_1_21 {j:Int} {i m} {h:List G159} {a:Int} {d} (f:okG27 i) (g:GM.ok d) (n:h.length+0<=500000000000) (p:j<=1000) (q:0<=a) (o:a<=1000):Tot (LF70_1_21 j i m h a d) (λr=>match r with|.inl r=>(r.1=a+1/\a<1000)/\GM.ok r.2|.inr r=>GM.ok r):=t_bd (λ_=>Xb (Xe (λ(c,b)=>c) 2 (by decide) (λ(c,b)=>GM.ok b) (T:=λr=>GM.ok r) tB tB tZ (λ⟨c,b⟩ e l k=>(tLF70_1_32 f (by first|exact e|exact e.1|exact e.2|exact e.2.1) tI tW l k).mono tM)) λ_ _=>(tJF70_1_24 (by first|assumption|exact Yg (by assumption)|exact gm0) tI tI).mono tM) λ_=>tL
theorem tF70_1 {k m} {f:List G159} (e:okG27 k) (l:f.length+264264<=500000000000):Tot (F70_1 k m f) (λr=>r.length<=f.length+264264):=Xb (tF130w e) λ_ _=>Xb (Xe (λ(c,d)=>c) 1000 (by decide) (λ(c,d)=>GM.ok d) (T:=λr=>GM.ok r) (by decide) (by decide) gm0 (λ⟨c,d⟩ j g i=>(by
 dsimp only at j g i ⊢
 refine(tLF70_1_21 e j (by omega) (by omega) g i).mono ?_
 rintro(⟨a,b⟩|r) h
 ·exact⟨h.2,h.1⟩
 ·exact h))) λ_ h=>tJF70_1_7 e h l
theorem tR291_0_1 {m p k r s n j o i l b h d c a g e f} (q:okG27 i):Tot (Vy m p k r s n j o i l b h d c a g e f) (λ_=>True):=Xc (λ_=>tL) λ_=>tL
theorem tLF276_2_66 {m n} {a:Int} {g k e c l h i j} (b:okG27 m) (p:0<=a) (o:a<=10):Tot (LF276_2_66 m n a g k e c l h i j) (λr=>match r with|.inl r=>(r.1=a+1/\a<10)/\True/\True/\True/\True/\True/\True/\True/\True|.inr (.inl r)=>True/\True/\True/\True/\True/\True/\True/\True|.inr (.inr r)=>True/\True/\True/\True/\True/\True/\True/\True):=t_bd (λ_=>have f:=(b.fp).le;t_bi (Xi (b.fp) tI tI) λ_ _ _=>Xb (tR291_0_1 b) λ_ _=>Xc (λ_=>tL) λ_=>tL) λ_=>have d:=(b.fp).le;tL
theorem tJF276_2_36 {t I o n m p l s r k} (q:okG27 t):Tot (JF276_2_36 t I o n m p l s r k) (λ_=>True):=Xb (Xe (λ(b,e,i,d,c,j,f,g,h)=>b) 10 (by decide) (λ(b,e,i,d,c,j,f,g,h)=>True) (T:=tru) tB tB tZ (λ⟨b,e,i,d,c,j,f,g,h⟩ N G D=>(tLF276_2_66 q G D).mono tM)) ((by
 rintro(⟨A,F,y,J,u,H,w,L⟩|⟨C,K,B,z,M,E,v,x⟩) a
 ·try dsimp only at a ⊢
  exact tL
 ·try dsimp only at a ⊢
  exact tL))
theorem tJF276_2_130 {a:Int} {i e b g c h d f} (j:0<=a) (k:a<10):Tot (JF276_2_130 a i e b g c h d f) (λr=>match r with|.inl r=>(r.1=a+1/\a<10)/\True/\True/\True/\True/\True/\True/\True/\True|.inr (.inl r)=>True/\True/\True/\True/\True/\True/\True/\True|.inr (.inr r)=>True/\True/\True/\True/\True/\True/\True/\True):=tL
theorem tJF276_2_195 {a:Int} {b g i d c f h e} (k:0<=a) (j:a<5):Tot (JF276_2_195 a b g i d c f h e) (λr=>match r with|.inl r=>(r.1=a+1/\a<5)/\True/\True/\True/\True/\True/\True/\True/\True|.inr (.inl r)=>True/\True/\True/\True/\True/\True/\True/\True|.inr (.inr r)=>True/\True/\True/\True/\True/\True/\True/\True):=tL
theorem tJF276_2_239 {a:Int} {e f i g b c h d} (k:0<=a) (j:a<3):Tot (JF276_2_239 a e f i g b c h d) (λr=>match r with|.inl r=>(r.1=a+1/\a<3)/\True/\True/\True/\True/\True/\True/\True/\True|.inr (.inl r)=>True/\True/\True/\True/\True/\True/\True/\True|.inr (.inr r)=>True/\True/\True/\True/\True/\True/\True/\True):=tL
theorem tLF276_2_275 {h:G100} {p:G27} {i:Int} {d:Int} {g:Int} {O} {c:Int} {y q A u x s B v} (k:okG100 h) (w:okG27 p) (R:0<=i/\i<ln p.fc) (N:∀ a,gx (Sl.es p.fc) i=some a->0<=d/\d<ln a.ff) (M:∀ a,gx (Sl.es p.fc) i=some a->∀ b,gx (Sl.es a.ff) d=some b->0<=g/\g<ln b.fh) (q3:∀ a,gx (Sl.es p.fc) i=some a->∀ b,gx (Sl.es a.ff) d=some b->∀ e,gx (Sl.es b.fh) g=some e->e=h) (P:0<=c) (Q:c<=1000):Tot (LF276_2_275 h p i d g O c y q A u x s B v) (λr=>match r with|.inl r=>(r.1=c+1/\c<1000)/\True/\True/\True/\True/\True/\True/\True/\True|.inr (.inl r)=>True/\True/\True/\True/\True/\True/\True/\True|.inr (.inr r)=>True/\True/\True/\True/\True/\True/\True/\True):=t_bd (λ_=>have D:=(k.fg).le;t_bi (Xi (w.fc) tI tI) λa m f=>have I:=N a f;t_bi (Xi (m.ff) tI tI) λb l j=>have J:=M a f b j;t_bi (Xi (l.fh) tI tI) λe o n=>(by
 have H:ln e.fg=ln h.fg:=congrArg (λz=>ln z.fg) (q3 a f b j e n)
 refine t_bi (Xi (o.fg) tI tI) λK C G=>?_
 refine Xb (tR291_0_1 w) λL F=>?_
 refine Xc (λt=>?_) λt=>?_
 ·exact tL
 ·exact tL)) λ_=>have E:=(k.fg).le;tL
theorem tLF276_2_229 {f:G95} {A:G27} {i:Int} {g:Int} {v1} {e:Int} {C B y J H K G I} (k:okG95 f) (D:okG27 A) (q0:0<=i/\i<ln A.fc) (q1:∀ a,gx (Sl.es A.fc) i=some a->0<=g/\g<ln a.ff) (q2:∀ a,gx (Sl.es A.fc) i=some a->∀ c,gx (Sl.es a.ff) g=some c->c=f) (b0:0<=e) (b1:e<=3):Tot (LF276_2_229 f A i g v1 e C B y J H K G I) (λr=>match r with|.inl r=>(r.1=e+1/\e<3)/\True/\True/\True/\True/\True/\True/\True/\True|.inr (.inl r)=>True/\True/\True/\True/\True/\True/\True/\True|.inr (.inr r)=>True/\True/\True/\True/\True/\True/\True/\True):=t_bd (λ_=>have N:=(k.fh).le;t_bi (Xi (D.fc) tI tI) λa w b=>have Q:=q1 a b;t_bi (Xi (w.ff) tI tI) λc x d=>(by
 have M:ln c.fh=ln f.fh:=congrArg (λz=>ln z.fh) (q2 a b c d)
 refine t_bi (Xi (x.fh) tI tI) λal u v=>?_
 have O:=q1 a b
 have R:ln c.fh=ln f.fh:=congrArg (λz=>ln z.fh) (q2 a b c d)
 refine Xb (Xe (λ(j,n,l,o,s,m,q,p,t)=>j) 1000 (by decide) (λ(j,n,l,o,s,m,q,p,t)=>True) (T:=tru) tB tB tZ ?_) ?_
 ·rintro⟨j,n,l,o,s,m,q,p,t⟩ hI h0 h1
  try dsimp only at hI h0 h1 ⊢
  refine(tLF276_2_275 u D tI (oq b tI) (oq b (oq d tI)) (by intro S L;obtain rfl:=Option.some.inj (b.symm.trans L);intro ah F;obtain rfl:=Option.some.inj (d.symm.trans F);intro ad E;obtain rfl:=Option.some.inj (v.symm.trans E);rfl) h0 h1).mono ?_
  exact tM
 ·rintro(⟨W,U,aa,Z,ac,ab,V,ae⟩|⟨ak,ag,af,aj,X,Y,ai,am⟩) h
  ·try dsimp only at h ⊢
   exact tL
  ·try dsimp only at h ⊢
   exact(tJF276_2_239 tI tI).mono tM)) λ_=>have P:=(k.fh).le;tL
theorem tLF276_2_185 {c:G75} {E:G27} {h:Int} {v1} {d:Int} {v A w u D y x C} (g:okG75 c) (B:okG27 E) (q0:0<=h/\h<ln E.fc) (Y:∀ a,gx (Sl.es E.fc) h=some a->a=c) (b0:0<=d) (b1:d<=5):Tot (LF276_2_185 c E h v1 d v A w u D y x C) (λr=>match r with|.inl r=>(r.1=d+1/\d<5)/\True/\True/\True/\True/\True/\True/\True/\True|.inr (.inl r)=>True/\True/\True/\True/\True/\True/\True/\True|.inr (.inr r)=>True/\True/\True/\True/\True/\True/\True/\True):=t_bd (λ_=>have H:=(g.ff).le;t_bi (Xi (B.fc) tI tI) λa s b=>(by
 have F:ln a.ff=ln c.ff:=congrArg (λz=>ln z.ff) (Y a b)
 refine t_bi (Xi (s.ff) tI tI) λW t q=>?_
 have I:ln a.ff=ln c.ff:=congrArg (λz=>ln z.ff) (Y a b)
 refine Xb (Xe (λ(e,n,l,i,o,k,p,j,m)=>e) 3 (by decide) (λ(e,n,l,i,o,k,p,j,m)=>True) (T:=tru) tB tB tZ ?_) ?_
 ·rintro⟨e,n,l,i,o,k,p,j,m⟩ hI h0 R
  try dsimp only at hI h0 R ⊢
  refine(tLF276_2_229 t B tI (oq b tI) (oq b (oq q rfl)) h0 R).mono ?_
  exact tM
 ·rintro(⟨V,Z,K,ac,Q,M,O,X⟩|⟨J,P,N,aa,ab,L,S,U⟩) f
  ·try dsimp only at f ⊢
   exact tL
  ·try dsimp only at f ⊢
   exact(tJF276_2_195 tI tI).mono tM)) λ_=>have G:=(g.ff).le;tL
theorem tLF276_2_120 {E V} {d:Int} {x y q u s v z p} (a:okG27 E) (W:0<=d) (X:d<=10):Tot (LF276_2_120 E V d x y q u s v z p) (λr=>match r with|.inl r=>(r.1=d+1/\d<10)/\True/\True/\True/\True/\True/\True/\True/\True|.inr (.inl r)=>True/\True/\True/\True/\True/\True/\True/\True|.inr (.inr r)=>True/\True/\True/\True/\True/\True/\True/\True):=t_bd (λ_=>have t:=(a.fc).le;t_bi (Xi (a.fc) tI tI) λ_ n e=>Xb (tR291_0_1 a) λ_ _=>Xc (λ_=>tL) λ_=>t_bi (Xi (a.fc) tI tI) λ_ _ o=>(by
 obtain rfl:=Option.some.inj (e.symm.trans o)
 refine Xb (Xe (λ(c,g,j,h,f,m,i,l,k)=>c) 5 (by decide) (λ(c,g,j,h,f,m,i,l,k)=>True) (T:=tru) tB tB tZ ?_) ?_
 ·rintro⟨c,g,j,h,f,m,i,l,k⟩ U O K
  try dsimp only at U O K ⊢
  refine(tLF276_2_185 n a tI (oq e rfl) O K).mono ?_
  exact tM
 ·rintro(⟨S,P,I,F,A,Q,J,D⟩|⟨L,R,N,H,C,M,G,B⟩) b
  ·try dsimp only at b ⊢
   exact tL
  ·try dsimp only at b ⊢
   exact(tJF276_2_130 tI tI).mono tM)) λ_=>have w:=(a.fc).le;tL
theorem tJF276_2_27 {x M r n s m o q p l} (h:okG27 x):Tot (JF276_2_27 x M r n s m o q p l) (λ_=>True):=Xb (Xe (λ(b,i,j,d,f,e,g,k,c)=>b) 10 (by decide) (λ(b,i,j,d,f,e,g,k,c)=>True) (T:=tru) tB tB tZ (λ⟨b,i,j,d,f,e,g,k,c⟩ N L K=>(tLF276_2_120 h L K).mono tM)) ((by
 rintro(⟨w,I,G,u,v,E,A,B⟩|⟨F,t,C,H,J,D,y,z⟩) a
 ·try dsimp only at a ⊢
  exact tL
 ·try dsimp only at a ⊢
  exact tJF276_2_36 h))
theorem tJF276_2_347 {a:Int} {c b d f e j i g h} (l:0<=a) (k:a<4):Tot (JF276_2_347 a c b d f e j i g h) (λr=>match r with|.inl r=>True/\(r.2.1=a+1/\a<4)/\True/\True/\True/\True/\True/\True/\True/\True|.inr (.inl r)=>True/\True/\True/\True/\True/\True/\True/\True|.inr (.inr r)=>True/\True/\True/\True/\True/\True/\True/\True):=tL
theorem tLF276_2_404 {d:G68} {t:G27} {c:Int} {E k} {b:Int} {s l p h j i n o} (e:okG68 d) (m:okG27 t) (H:0<=c/\c<ln t.fi) (D:∀ a,gx (Sl.es t.fi) c=some a->a=d) (F:0<=b) (G:b<=5):Tot (LF276_2_404 d t c E k b s l p h j i n o) (λr=>match r with|.inl r=>True/\(r.2.1=b+1/\b<5)/\True/\True/\True/\True/\True/\True/\True/\True|.inr (.inl r)=>True/\True/\True/\True/\True/\True/\True/\True|.inr (.inr r)=>True/\True/\True/\True/\True/\True/\True/\True/\True):=t_bd (λ_=>have w:=(e.fx).le;t_bi (Xi (m.fi) tI tI) λa f g=>(by
 have A:ln a.fx=ln d.fx:=congrArg (λz=>ln z.fx) (D a g)
 refine t_bi (Xi (f.fx) tI tI) λB y u=>?_
 refine Xb (tR291_0_1 m) λC x=>?_
 refine Xc (λq=>?_) λq=>?_
 ·exact tL
 ·exact tL)) λ_=>have v:=(e.fx).le;tL
theorem tLF276_2_336 {G Y w} {a:Int} {q v s t u z x y} (b:okG27 G) (Z:0<=a) (b1:a<=4):Tot (LF276_2_336 G Y w a q v s t u z x y) (λr=>match r with|.inl r=>True/\(r.2.1=a+1/\a<4)/\True/\True/\True/\True/\True/\True/\True/\True|.inr (.inl r)=>True/\True/\True/\True/\True/\True/\True/\True|.inr (.inr r)=>True/\True/\True/\True/\True/\True/\True/\True):=t_bd (λ_=>have A:=(b.fi).le;t_bi (Xi (b.fi) tI tI) λ_ p c=>Xb (tR291_0_1 b) λ_ _=>Xc (λ_=>tL) λ_=>t_bi (Xi (b.fi) tI tI) λ_ _ o=>(by
 obtain rfl:=Option.some.inj (c.symm.trans o)
 refine Xb (Xe (λ(i,e,n,j,m,f,h,g,k,l)=>e) 5 (by decide) (λ(i,e,n,j,m,f,h,g,k,l)=>True) (T:=tru) tB tB tZ ?_) ?_
 ·rintro⟨i,e,n,j,m,f,h,g,k,l⟩ X S O
  try dsimp only at X S O ⊢
  refine(tLF276_2_404 p b tI (oq c rfl) S O).mono ?_
  exact tM
 ·rintro(⟨E,J,M,I,U,V,L,D⟩|⟨Q,K,H,C,F,P,R,N,W⟩) d
  ·try dsimp only at d ⊢
   exact tL
  ·try dsimp only at d ⊢
   exact(tJF276_2_347 tI tI).mono tM)) λ_=>have B:=(b.fi).le;tL
theorem tF276_2 {q N H F G J D K L E} (l:okG27 q):Tot (F276_2 q N H F G J D K L E) (λ_=>True):=Xb (Xe (λ(h,b,c,g,d,e,f,k,i,j)=>b) 4 (by decide) (λ(h,b,c,g,d,e,f,k,i,j)=>True) (T:=tru) tB tB tZ (λ⟨h,b,c,g,d,e,f,k,i,j⟩ O M I=>(tLF276_2_336 l M I).mono tM)) ((by
 rintro(⟨y,m,B,x,A,t,n,u⟩|⟨v,C,w,r,z,o,s,p⟩) a
 ·try dsimp only at a ⊢
  exact tL
 ·try dsimp only at a ⊢
  exact tJF276_2_27 l))
theorem tJF291_11 {g h d b c e f a}:Tot (JF291_11 g h d b c e f a) (λ_=>True):=tL
theorem tF291 {v0 v1} (a:okG27 v0):Tot (F291 v0 v1) (λ_=>True):=Xc (λ_=>tL) λ_=>Xb (tF276_2 a) λ_ _=>Xc (λ_=>tL) λ_=>tJF291_11
theorem tF189 {i:Sl Int} (c:(OkSl (λ_=>True) 1000) i):Tot (F189 i) (λr=>ln r<=1000):=t_be (λ_=>Xb (R:=λ_=>True) (Xs (λs=>s=1) (λ_=>0) (λ_=>True) (λ_ v=>(by
 subst v
 right
 refine⟨(),?_,trivial⟩
 unfold LF189_10
 have e:decide ((1:Int)<ln i)=false:=decide_eq_false (by omega)
 rw[e]
 rfl)) rfl (by decide)) λ_ _=>(by
 show Tot JF189_4 _
 unfold JF189_4
 exact Xd (show(0:Int)<=1000 by decide))) (λ_=>have x:=c.le;Xb (t_gmk (by omega) (by omega) (by decide)) λh _=>Xb (Xe (λ(a,_)=>a) 1000 (by decide) (λ(a,f)=>1<=a/\f.length=h) (T:=λr=>r.length=h) (by (try dsimp only);omega) (by (try dsimp only);omega) (by (try dsimp only);simp) (λ⟨a,f⟩ g y w=>(by
 obtain⟨l,g⟩:=g
 unfold LF189_21
 refine t_bd (λm=>?_) (λm=>?_)
 ·have e:wi (a-1)=a-1:=Xp (by omega) (by omega)
  rw[e]
  refine Xb (t_gin (by omega) (by omega)) λo _=>?_
  refine Xb (t_gxL (by omega) (by omega)) λu _=>?_
  refine Xb (Xi c (by omega) (by omega)) λn j=>?_
  refine Xb (t_gin (by omega) (by omega)) λq _=>?_
  refine Xb (t_gset (by omega) (by omega)) λk d=>?_
  have t:wi (a+1)=a+1:=Xp (by omega) (by omega)
  exact Xd ⟨⟨by show 1<=wi (a+1);omega,d.2.trans g⟩,t,by show a<1000;omega⟩
 ·exact Xd g))) λb p=>(by
 show Tot (JF189_13 h b) _
 unfold JF189_13
 refine Xb (t_gfz p) λ_ _=>?_
 exact Xd (show((b.length:Nat):Int)<=1000 by omega)))
theorem tF100 {g k} (e:okG100 g):Tot (F100 g k) (λr=>ln r.1<=1000/\True):=Xb (tF188 e) λh c=>(by
 obtain⟨b,d⟩:=c
 refine t_bn (λa=>?_) λa=>?_
 ·exact tL
 ·refine Xb (tF189 (OkSl.tr (s:=h.1) (n:=1000) tI)) λi j=>?_
  have f:=(OkSl.tr (s:=i) (n:=1000) tI).le
  exact tL)
theorem tJF231_1_7 {d:G27} {a:G236×Bool} {f:Bool} (b:okG27 d) (l:f=false->∃ M C V x,gx (Sl.es d.fc) a.1.fo=some M/\gx (Sl.es M.ff) a.1.fC=some C/\gx (Sl.es C.fh) a.1.fB=some V/\gx (Sl.es V.fg) a.1.f9=some x):Tot (JF231_1_7 d a f) (λ_=>True):=Xc (λ_=>Xd trivial) λc=>(by
 obtain⟨M,C,V,x,e,h,i,n⟩:=l c
 have g:=b.fc.2 M (Wo e)
 have kC:=g.ff.2 C (Wo h)
 have kV:=kC.fh.2 V (Wo i)
 rw[e]
 simp only[Option.bind_some]
 refine Xb (tF99 g) λo _=>?_
 rw[h]
 simp only[Option.bind_some]
 rw[i]
 simp only[Option.bind_some]
 refine Xb (tF100 kV) λm _=>?_
 refine t_bd (λ_=>Xd trivial) λj=>?_
 exact Xb (t_gx (Ya n).1 (by simp only[ln]at j;omega)) λk _=>Xd trivial)
def okPl (s:G27) (k a m v e:Int):Prop:=k=4->∃ M C V x,gx (Sl.es s.fc) m=some M/\gx (Sl.es M.ff) a=some C/\gx (Sl.es C.fh) v=some V/\gx (Sl.es V.fg) e=some x
def okP8 (s:G27) (t:Int×Int×Int×Int×Int×Int×Int×Bool):Prop:=okPl s t.1 t.2.2.1 t.2.2.2.1 t.2.2.2.2.1 t.2.2.2.2.2.1
def okP9 (s:G27) (t:Int×Int×Int×Int×Int×Int×Int×Bool×Bool):Prop:=t.2.2.2.2.2.2.2.2=true->okPl s t.1 t.2.2.1 t.2.2.2.1 t.2.2.2.2.1 t.2.2.2.2.2.1
theorem R15_hit {l n k o p m j s t q b i d c a g e f r} (h:Vy l n k o p m j s t q b i d c a g e f=some r) (hr:r.2.2.2.2.2.2.2.2=true):r=(l,n,k,o,p,m,j,true,true):=by
 rcases cor h with⟨_,h⟩|⟨_,h⟩
 ·exact(Option.some.inj h).symm
 ·cases h
  cases hr
theorem i275 {l s n m k v a b c d e f g i j t} (h:LF276_2_275 l s n m k v a b c d e f g i j=some (.inr (.inl t))):okP8 s t:=by
 rcases cor h with⟨_,h⟩|⟨_,h⟩
 ·obtain⟨M,o,h⟩:=Xa h
  obtain⟨C,p,h⟩:=Xa h
  obtain⟨V,q,h⟩:=Xa h
  obtain⟨x,u,h⟩:=Xa h
  obtain⟨r,hr,h⟩:=Xa h
  rcases cor h with⟨c,h⟩|⟨_,h⟩
  ·obtain rfl:=R15_hit hr c
   cases h
   exact λ_=>⟨M,C,V,x,o,p,q,u⟩
  ·cases h
 ·cases h
theorem i229 {k s m l p a b c d e f g i j t} (h:LF276_2_229 k s m l p a b c d e f g i j=some (.inr (.inl t))):okP8 s t:=by
 rcases cor h with⟨_,h⟩|⟨_,h⟩
 ·obtain⟨M,r,h⟩:=Xa h
  obtain⟨C,u,h⟩:=Xa h
  obtain⟨V,v,h⟩:=Xa h
  obtain⟨o,n,h⟩:=Xa h
  have q:=Ws (T:=λo=>match o with|.inl t=>okP8 s t|.inr _=>True) n (by
   rintro⟨a,b,c,d,e,f,g,i,j⟩ (o|o) h
   ·exact i275 h
   ·trivial)
  rcases o with⟨a,b,c,d,e,f,g,i⟩|⟨a,b,c,d,e,f,g,i⟩
  ·cases h
   exact q
  ·cases h
 ·cases h
theorem i185 {k s l n a b c d e f g i j t} (h:LF276_2_185 k s l n a b c d e f g i j=some (.inr (.inl t))):okP8 s t:=by
 rcases cor h with⟨_,h⟩|⟨_,h⟩
 ·obtain⟨M,p,h⟩:=Xa h
  obtain⟨C,r,h⟩:=Xa h
  obtain⟨o,m,h⟩:=Xa h
  have q:=Ws (T:=λo=>match o with|.inl t=>okP8 s t|.inr _=>True) m (by
   rintro⟨a,b,c,d,e,f,g,i,j⟩ (o|o) h
   ·exact i229 h
   ·trivial)
  rcases o with⟨a,b,c,d,e,f,g,i⟩|⟨a,b,c,d,e,f,g,i⟩
  ·cases h
   exact q
  ·cases h
 ·cases h
theorem i120 {s l a b c d e f g i j t} (h:LF276_2_120 s l a b c d e f g i j=some (.inr (.inl t))):okP8 s t:=by
 rcases cor h with⟨_,h⟩|⟨_,h⟩
 ·obtain⟨M,m,h⟩:=Xa h
  obtain⟨r,hr,h⟩:=Xa h
  rcases cor h with⟨c,h⟩|⟨_,h⟩
  ·obtain rfl:=R15_hit hr c
   cases h
   exact λh=>by dsimp only at h;exact absurd h (by decide)
  ·obtain⟨p,n,h⟩:=Xa h
   obtain⟨o,k,h⟩:=Xa h
   have q:=Ws (T:=λo=>match o with|.inl t=>okP8 s t|.inr _=>True) k (by
    rintro⟨a,b,c,d,e,f,g,i,j⟩ (o|o) h
    ·exact i185 h
    ·trivial)
   rcases o with⟨a,b,c,d,e,f,g,i⟩|⟨a,b,c,d,e,f,g,i⟩
   ·cases h
    exact q
   ·cases h
 ·cases h
theorem i66 {s k a b c d e f g i j t} (h:LF276_2_66 s k a b c d e f g i j=some (.inr (.inl t))):okP8 s t:=by
 rcases cor h with⟨_,h⟩|⟨_,h⟩
 ·obtain⟨M,l,h⟩:=Xa h
  obtain⟨r,hr,h⟩:=Xa h
  rcases cor h with⟨c,h⟩|⟨_,h⟩
  ·obtain rfl:=R15_hit hr c
   cases h
   exact λh=>by dsimp only at h;exact absurd h (by decide)
  ·cases h
 ·cases h
theorem i404 {p s l m a0 a b c d e f g i j t} (h:LF276_2_404 p s l m a0 a b c d e f g i j=some (.inr (.inl t))):okP8 s t:=by
 rcases cor h with⟨_,h⟩|⟨_,h⟩
 ·obtain⟨M,k,h⟩:=Xa h
  obtain⟨M,k,h⟩:=Xa h
  obtain⟨r,hr,h⟩:=Xa h
  rcases cor h with⟨c,h⟩|⟨_,h⟩
  ·obtain rfl:=R15_hit hr c
   cases h
   exact λh=>by dsimp only at h;exact absurd h (by decide)
  ·cases h
 ·cases h
theorem i336 {s m a0 a b c d e f g i j t} (h:LF276_2_336 s m a0 a b c d e f g i j=some (.inr (.inl t))):okP8 s t:=by
 rcases cor h with⟨_,h⟩|⟨_,h⟩
 ·obtain⟨M,n,h⟩:=Xa h
  obtain⟨r,hr,h⟩:=Xa h
  rcases cor h with⟨c,h⟩|⟨_,h⟩
  ·obtain rfl:=R15_hit hr c
   cases h
   exact λh=>by dsimp only at h;exact absurd h (by decide)
  ·obtain⟨u,p,h⟩:=Xa h
   obtain⟨o,l,h⟩:=Xa h
   have q:=Ws (T:=λo=>match o with|.inl t=>okP8 s t|.inr _=>True) l (by
    rintro⟨a0,a,b,c,d,e,f,g,i,j⟩ (o|o) h
    ·exact i404 h
    ·trivial)
   rcases o with⟨a,b,c,d,e,f,g,i⟩|⟨k,a,b,c,d,e,f,g,i⟩
   ·cases h
    exact q
   ·cases h
 ·cases h
theorem iJ36 {s l a b c d e f g i t} (h:JF276_2_36 s l a b c d e f g i=some t):okP9 s t:=by
 obtain⟨o,k,h⟩:=Xa h
 have q:=Ws (T:=λo=>match o with|.inl t=>okP8 s t|.inr _=>True) k (by
  rintro⟨a,b,c,d,e,f,g,i,j⟩ (o|o) h
  ·exact i66 h
  ·trivial)
 rcases o with⟨a,b,c,d,e,f,g,i⟩|⟨a,b,c,d,e,f,g,i⟩
 ·cases h
  exact λ_=>q
 ·cases h
  exact λh=>by cases h
theorem iJ27 {s l a b c d e f g i t} (h:JF276_2_27 s l a b c d e f g i=some t):okP9 s t:=by
 obtain⟨o,k,h⟩:=Xa h
 have q:=Ws (T:=λo=>match o with|.inl t=>okP8 s t|.inr _=>True) k (by
  rintro⟨a,b,c,d,e,f,g,i,j⟩ (o|o) h
  ·exact i120 h
  ·trivial)
 rcases o with⟨a,b,c,d,e,f,g,i⟩|⟨a,b,c,d,e,f,g,i⟩
 ·cases h
  exact λ_=>q
 ·exact iJ36 h
theorem i78 {s l a b c d e f g i t} (h:F276_2 s l a b c d e f g i=some t):okP9 s t:=by
 obtain⟨o,k,h⟩:=Xa h
 have q:=Ws (T:=λo=>match o with|.inl t=>okP8 s t|.inr _=>True) k (by
  rintro⟨a0,a,b,c,d,e,f,g,i,j⟩ (o|o) h
  ·exact i336 h
  ·trivial)
 rcases o with⟨a,b,c,d,e,f,g,i⟩|⟨a,b,c,d,e,f,g,i⟩
 ·cases h
  exact λ_=>q
 ·exact iJ27 h
theorem F15_ok {s:G27} {b:G58} {p:G236} (h:F291 s b=some (p,true)):okPl s p.fq p.fC p.fo p.fB p.f9:=by
 rcases cor h with⟨_,h⟩|⟨_,h⟩
 ·cases h
 ·obtain⟨t,d,h⟩:=Xa h
  rcases cor h with⟨c,h⟩|⟨_,h⟩
  ·have q:=i78 d c
   have e:=Option.some.inj h
   have a:=congrArg Prod.fst e
   dsimp only at a
   subst a
   exact q
  ·cases h
theorem tF231_1 {d c g} {f:List G159} (a:okG27 c) (i:f.length+0<=500000000000):Tot (F231_1 d c g f) (λ_=>True):=by
 unfold F231_1
 obtain⟨⟨p,b⟩,e,_⟩:=tF291 (v0:=c) (v1:=d) a
 rw[e]
 simp only[Option.bind_some]
 cases b with
 |false=>simp only[Bool.not_false,cond_true];exact tJF231_1_7 a (by intro h;cases h)
 |true=>simp only[Bool.not_true,cond_false];exact tJF231_1_7 a λh=>F15_ok e (by simpa using h)
theorem tF315 {b a}:Tot (F315 b a) (λ_=>True):=t_bd (λ_=>tL) λ_=>tL
theorem tF292 {a}:Tot (F292 a) (λ_=>True):=Xb (tF315) λ_ _=>Xc (λ_=>Xb (tF315) λ_ _=>Xc (λ_=>Xb (tF315) λ_ _=>Xc (λ_=>Xb (tF315) λ_ _=>tL) λ_=>tL) λ_=>tL) λ_=>tL
theorem tF293 {a}:Tot (F293 a) (λ_=>True):=t_be (λ_=>tL) λ_=>tL
theorem tF199 {a}:Tot (F199 a) (λ_=>True):=tL
theorem tF116 {b a}:Tot (F116 b a) (λ_=>True):=Xb (tF199) λ_ _=>Xb (tF199) λ_ _=>Xc (λ_=>Xc (λ_=>tL) λ_=>tL) λ_=>Xc (λ_=>tL) λ_=>t_bd (λ_=>tL) λ_=>t_bd (λ_=>tL) λ_=>tL
theorem tJF115_1:Tot (JF115_1 ) (λ_=>True):=tL
theorem tLF115_8 {e:Sl Int} {b:Int} (a:(OkSl (λ_=>True) 1000) e) (g:0<=b) (f:b<=1000):Tot (LF115_8 e b) (λr=>match r with|.inl r=>(r=b+1/\b<1000)|.inr (.inl r)=>True|.inr (.inr r)=>True):=t_bd (λ_=>have c:=(a).le;t_bi (Xi a tI tI) λ_ _ _=>t_bn (λ_=>tL) λ_=>tL) λ_=>have d:=(a).le;tL
theorem tF115 {d:Sl Int} (b:(OkSl (λ_=>True) 1000) d):Tot (F115 d) (λ_=>True):=Xb (Xe (λc=>c) 1000 (by decide) (λc=>True) (T:=tru) tB tB tZ (λ_ _ e f=>(tLF115_8 b e f).mono tM)) ((by
 rintro(g|⟨⟩) a
 ·try dsimp only at a ⊢
  exact tL
 ·try dsimp only at a ⊢
  exact tJF115_1))
theorem tF294 {b a}:Tot (F294 b a) (λ_=>True):=Xb (tF116) λ_ _=>Xb (tF116) λ_ _=>Xb (tF115 OkSl.lit) λ_ _=>tL
theorem tJF232_8 {a b}:Tot (JF232_8 a b) (λ_=>True):=Xc (λ_=>tL) λ_=>Xb (tF294) λ_ _=>t_bd (λ_=>tL) λ_=>tL
theorem tJF232_5 {a b}:Tot (JF232_5 a b) (λ_=>True):=Xc (λ_=>tL) λ_=>t_bn (λ_=>tJF232_8) λ_=>Xb (tF293) λ_ _=>Xc (λ_=>tJF232_8) λ_=>tJF232_8
theorem tJF232_2 {b a}:Tot (JF232_2 b a) (λ_=>True):=Xc (λ_=>tL) λ_=>Xb (tF292) λ_ _=>Xc (λ_=>tJF232_5) λ_=>Xb (tF292) λ_ _=>tJF232_5
theorem tF232 {a}:Tot (F232 a) (λ_=>True):=t_bd (λ_=>tJF232_2) λ_=>tJF232_2
theorem tLF157_1_15w {f w} {s:List G159} {o:List G263} {k:List Bool} {d:Int} (e:okG27 f) (y:s.length+o.length+k.length+1<=500000000000) (x:0<=d) (z:d<=10) (a:(o.length:Int)=d/\(k.length:Int)=d/\d<=ln f.fp):Tot (LF157_1_15 f w s o k d) (λr=>match r with
  |.inl (l,m,i)=>((l.length:Int)=i/\(m.length:Int)=i/\i<=ln f.fp)/\i=d+1/\d<10
  |.inr (l,m)=>(l.length:Int)=ln f.fp/\(m.length:Int)=ln f.fp):=have A:=(e.fp).le;t_bd (λc=>Xb (Xi e.fp x c) λ_ _=>Xb (tF231_1 e (by omega)) λ_ _=>Xb (tF231_1 e (by omega)) λ_ _=>Xb (t_gapp (by show(o.length+1)*72<=_;omega)) λh p=>(by
 have t:(h.length:Int)=d+1:=by rw[p];simp only[List.length_append,Sl.es,List.length_cons,List.length_nil];omega
 have u:=Xp (n:=d+1) (by omega) (by omega)
 have j:∀ {b:Bool},Tot ((gapp 1 k (Sl.es (Sl.full [b]))).bind λg=>some (.inl (h,g,wi (d+1)))) (λr:(List G263×List Bool×Int)⊕(List G263×List Bool)=>match r with
  |.inl (l,m,i)=>((l.length:Int)=i/\(m.length:Int)=i/\i<=ln f.fp)/\i=d+1/\d<10
  |.inr (l,m)=>(l.length:Int)=ln f.fp/\(m.length:Int)=ln f.fp):=by
  intro b
  refine Xb (t_gapp (by show(k.length+1)*1<=_;omega)) λg q=>?_
  have v:(g.length:Int)=d+1:=by rw[q];simp only[List.length_append,Sl.es,List.length_cons,List.length_nil];omega
  exact Xd ⟨⟨by show(h.length:Int)=wi (d+1);omega,by show(g.length:Int)=wi (d+1);omega,by show wi (d+1)<=_;omega⟩,u,by show d<10;omega⟩
 refine Xc (λ_=>j) λ_=>Xc (λ_=>j) λ_=>?_
 exact Xb tF232 λ_ _=>j)) λc=>Xd (by dsimp only;omega)
theorem tF157_1w {a g} {c:List G159} (b:okG27 a) (j:c.length+22<=500000000000):Tot (F157_1 a g c) (λr=>ln r.1=ln a.fp/\ln r.2=ln a.fp):=have k:=(b.fp).le;Xb (Xe (λ(_,_,i)=>i) 10 (by decide) (λ(l,m,i)=>(l.length:Int)=i/\(m.length:Int)=i/\i<=ln a.fp) (T:=λ(l,m)=>(l.length:Int)=ln a.fp/\(m.length:Int)=ln a.fp) (by decide) (by decide) ⟨rfl,rfl,by show(0:Int)<=ln a.fp;omega⟩ (λ⟨l,m,i⟩ f d e=>(by
 dsimp only at f d e ⊢
 refine(tLF157_1_15w b (by omega) d e f).mono ?_
 rintro(⟨l,m,i⟩|⟨l,m⟩) h
 ·exact h
 ·exact h))) λ⟨l,m⟩ h=>Xd (by show ln (mkSl l)=_/\ln (mkSl m)=_;rw[ln_mk,ln_mk];exact h)
theorem tF71_1 {h v} {b:List G159} (a:okG27 h) (w:b.length+22<=500000000000):Tot (F71_1 h v b) (λr=>r.length<=b.length+11):=have x:=(a.fp).le;Xb (tF157_1w a (by omega)) λ_ u=>Xb (Xe (λ(i,_)=>i) 10 (by decide) (λ(i,l)=>(l.length:Int)<=b.length+i) (T:=λr=>r.length<=b.length+11) tB tB (by dsimp only;omega) (λ⟨d,e⟩ k g j=>(by
 dsimp only at k g j ⊢
 refine t_bd (λc=>?_) λc=>Xd (show e.length<=b.length+11 by omega)
 refine Xb (Xi a.fp g c) λt _=>?_
 refine Xb (t_gx g (by simp only[ln]at u c;omega)) λm _=>?_
 refine Xb (Yb a (by omega)) λf p=>?_
 have s:=Xp (n:=d+1) (by omega) (by omega)
 exact Xd ⟨by show(f.length:Int)<=b.length+wi (d+1);omega,s,by show d<10;omega⟩))) λo q=>Xd q
theorem tJF295_2 {a:Int} {b:Bool} (d:b=false->1<=a/\a<=7):Tot (JF295_2 a b) (λ_=>True):=Xc (λ_=>tL) (λc=>have q:=d c;Xb (t_gxL (by rw[Xp (by omega) (by omega)];omega) (by rw[Xp (by omega) (by omega)];simp only[List.length_cons,List.length_nil];omega)) λ_ _=>tL)
theorem tF295 {a}:Tot (F295 a) (λ_=>True):=t_bd (λ_=>tJF295_2 tW) λ_=>tJF295_2 tW
theorem tF233 {v0 v1}:Tot (F233 v0 v1) (λ_=>True):=Xb (tF295) λ_ _=>t_bd (λ_=>Xb (tF295) λ_ _=>Xb (tF295) λ_ _=>t_be (λ_=>t_be (λ_=>Xb (tF293) λ_ _=>Xc (λ_=>tL) λ_=>tL) λ_=>tL) λ_=>tL) λ_=>tL
theorem tF235 {b a}:Tot (F235 b a) (λ_=>True):=Xb (tF294) λ_ _=>t_bd (λ_=>tL) λ_=>Xb (tF294) λ_ _=>tL
theorem tF296 {b a}:Tot (F296 b a) (λ_=>True):=Xb (tF294) λ_ _=>t_bd (λ_=>Xb (tF294) λ_ _=>tL) λ_=>tL
theorem tF238 {b a}:Tot (F238 b a) (λ_=>True):=Xb (tF235) λ_ _=>Xc (λ_=>Xb (tF296) λ_ _=>Xb (tF296) λ_ _=>tL) λ_=>tL
theorem tF234 {b a}:Tot (F234 b a) (λ_=>True):=Xb (tF235) λ_ _=>tL
theorem tF237 {b a}:Tot (F237 b a) (λ_=>True):=Xb (tF294) λ_ _=>t_bd (λ_=>tL) λ_=>Xb (tF294) λ_ _=>tL
theorem tF236 {b a}:Tot (F236 b a) (λ_=>True):=Xb (tF237) λ_ _=>tL
theorem F192_pos {k r:Int} (h:F295 k=some r) (hr:0<r):1<=k/\k<=7:=by
 unfold F295 JF295_2 at h
 cases h1:decide (k<1)with
 |true=>rw[h1]at h;have:=Option.some.inj h;omega
 |false=>
  rw[h1]at h
  cases h2:decide (k>7)with
  |true=>rw[h2]at h;have:=Option.some.inj h;omega
  |false=>have a:=of_decide_eq_false h1;have b:=of_decide_eq_false h2;omega
theorem F161_kind {a b:G263} (h:F233 a b=some true):1<=a.fq/\a.fq<=7:=by
 obtain⟨r,hr,h⟩:=Xa h
 cases h1:decide (r>0)with
 |true=>exact F192_pos hr (of_decide_eq_true h1)
 |false=>rw[h1]at h;cases h
theorem tF158 {c i}:Tot (F158 c i) (λ_=>True):=by
 unfold F158
 obtain⟨b,l,_⟩:=tF233 (v0:=c) (v1:=i)
 rw[l]
 cases b with
 |false=>simp only[Option.bind_some,Bool.not_false,cond_true];exact tL
 |true=>
  simp only[Option.bind_some,Bool.not_true,cond_false]
  have n:=F161_kind l
  have m:wi (c.fq-1)=c.fq-1:=Xp (by omega) (by omega)
  rw[m]
  refine Xc (λg=>Xb (tF238) λv a=>Xd trivial) λg=>?_
  refine Xc (λh=>Xb (tF234) λv a=>Xd trivial) λh=>?_
  refine Xc (λf=>Xb (tF234) λv a=>Xd trivial) λf=>?_
  refine Xc (λe=>Xb (tF236) λv a=>Xd trivial) λe=>?_
  refine Xc (λk=>Xb (tF236) λv a=>Xd trivial) λk=>?_
  refine Xc (λj=>Xb (tF234) λv a=>Xd trivial) λj=>?_
  refine Xc (λd=>Xb (tF236) λv a=>Xd trivial) λd=>?_
  replace g:=beq_eq_false_iff_ne.mp g
  replace h:=beq_eq_false_iff_ne.mp h
  replace f:=beq_eq_false_iff_ne.mp f
  replace e:=beq_eq_false_iff_ne.mp e
  replace k:=beq_eq_false_iff_ne.mp k
  replace j:=beq_eq_false_iff_ne.mp j
  replace d:=beq_eq_false_iff_ne.mp d
  omega
theorem tJF72_1_19 {b:Int} {a:List G159} (d:a.length+0<=500000000000) (e:0<=b) (c:b<10):Tot (JF72_1_19 b a) (λr=>match r with|.inl r=>(r.1=b+1/\b<10)/\r.2.length<=a.length+0|.inr r=>r.length<=a.length+0):=tL
theorem tJF72_1_23 {d f g} {a:List G159} {b:Int} {c} (e:okG27 f) (h:a.length+1<=500000000000) (j:0<=b) (i:b<10):Tot (JF72_1_23 d f g a b c) (λr=>match r with|.inl r=>(r.1=b+1/\b<10)/\r.2.length<=a.length+1|.inr r=>r.length<=a.length+1):=Xb (Yb e tI) λ_ _=>(tJF72_1_19 tI tI tI).mono tM
theorem tLF72_1_16w {g C} {k:Sl G263×Sl Bool} {e:Int} {d:List G159} (f:okG27 g) (x:ln k.1=ln g.fp/\ln k.2=ln g.fp) (t:d.length+1<=500000000000) (j:0<=e) (H:e<=10):Tot (LF72_1_16 g k C e d) (λr=>match r with
  |.inl r=>(r.1=e+1/\e<10)/\r.2.length<=d.length+1
  |.inr r=>r.length<=d.length+1):=by
 have G:=(f.fp).le
 obtain⟨F,s⟩:=x
 refine t_bd (λc=>?_) λc=>Xd (show d.length<=d.length+1 by omega)
 refine Xb (Xi f.fp j c) λv _=>?_
 refine Xb (R:=λ_=>True) (Xe (λ(_,i)=>i) 10 (by decide) (λ(_,i)=>i<=e) (T:=λ_=>True) tB tB tB ?_) ?_
 ·rintro⟨l,a⟩ A m z
  dsimp only at A m z ⊢
  have q:=Xp (n:=a+1) (by omega) (by omega)
  have key:∀ {b:Bool},(b=true->a<e)->Tot (Un k a e l b) (λr=>match r with|.inl s'=>s'.2<=e/\s'.2=a+1/\a<(10:Nat)|.inr _=>True):=by
   intro b o
   unfold Un
   refine Xc (λc=>?_) λ_=>Xd trivial
   have o:=o c
   refine Xb (t_gx m (by simp only[ln]at s c;simp only[ln]at *;omega)) λy _=>?_
   refine Xc (λ_=>?_) λ_=>?_
   ·refine Xb (t_gx m (by simp only[ln]at *;omega)) λw _=>?_
    refine Xb (t_gx j (by simp only[ln]at *;omega)) λB _=>?_
    refine Xb tF158 λD _=>?_
    exact Xd ⟨by show wi (a+1)<=e;omega,q,by show a<10;omega⟩
   ·exact Xd ⟨by show wi (a+1)<=e;omega,q,by show a<10;omega⟩
  unfold LF72_1_38
  refine t_bd (λp=>?_) λp=>(key (b:=false) (by intro h;cases h)).mono (by rintro(⟨_,_⟩|_) h<;>exact h)
  refine Xb (t_gx j (by simp only[ln]at *;omega)) λu _=>?_
  exact Xc (λ_=>(key λ_=>p).mono (by rintro(⟨_,_⟩|_) h<;>exact h)) λ_=>(key (b:=false) (by intro h;cases h)).mono (by rintro(⟨_,_⟩|_) h<;>exact h)
 ·rintro E _
  exact tJF72_1_23 f t j (by omega)
theorem tF72_1 {e m} {b:List G159} (a:okG27 e) (n:b.length+22<=500000000000):Tot (F72_1 e m b) (λr=>r.length<=b.length+11):=have q:=(a.fp).le;Xb (tF157_1w a (by omega)) λ_ k=>Xb (Xe (λ(i,_)=>i) 10 (by decide) (λ(i,l)=>(l.length:Int)<=b.length+i) (T:=λr=>r.length<=b.length+11) tB tB (by dsimp only;omega) (λ⟨p,c⟩ g f d=>(by
 dsimp only at g f d ⊢
 refine(tLF72_1_16w a k (by omega) f d).mono ?_
 rintro(⟨i,l⟩|r) h
 ·exact⟨by have:=h.1;have:=h.2;dsimp only at *;omega,h.1⟩
 ·show r.length<=_
  have:r.length<=c.length+1:=h
  omega))) λo j=>Xd j
theorem tF159 {b a} (c:okG75 a):Tot (F159 b a) (λ_=>True):=t_bn (λ_=>Xb (Wv) λ_ _=>Xc (λ_=>tL) λ_=>Xb (Wv) λ_ _=>tL) λ_=>Xb (Wv) λ_ _=>tL
theorem tLF131_6_11 {g h} {c:Int} {d:List G159} (a:okG27 g) (i:d.length+1<=500000000000) (k:0<=c) (j:c<=10):Tot (LF131_6_11 g h c d) (λr=>match r with|.inl r=>(r.1=c+1/\c<10)/\r.2.length<=d.length+1|.inr r=>r.length<=d.length+1):=t_bd (λ_=>have e:=(a.fc).le;t_bi (Xi (a.fc) tI tI) λ_ b _=>Xb (tF159 b) λ_ _=>Xb (Yb a tI) λ_ _=>tL) λ_=>have f:=(a.fc).le;tL
theorem tF131_6 {h i} {a:List G159} (e:okG27 h) (k:a.length+11<=500000000000):Tot (F131_6 h i a) (λr=>r.length<=a.length+11):=Xb (Xe (λ(b,c)=>b) 10 (by decide) (λ(b,c)=>(c.length:Int)<=a.length+0+1*b) (T:=λr=>r.length<=a.length+11) tB tB tZ (λ⟨b,c⟩ j f g=>(by
 try dsimp only at j f g ⊢
 refine(tLF131_6_11 e tI f g).mono ?_
 exact tM))) λ_ d=>(by
 try dsimp only at d ⊢
 exact tL)
theorem u8r (x:Int):0<=IntKind.wrap .u8 x/\IntKind.wrap .u8 x<256:=by rw[IntKind.wrap_u8];omega
theorem tJF245_6 {b a}:Tot (JF245_6 b a) (λ_=>True):=Xc (λ_=>Xb (t_gch (u8r _).1 (u8r _).2) λ_ _=>Xd trivial) λ_=>Xb (t_gch (u8r _).1 (u8r _).2) λ_ _=>Xd trivial
theorem tJF245_3 {a b}:Tot (JF245_3 a b) (λ_=>True):=t_bd (λ_=>tJF245_6) λ_=>tJF245_6
theorem tF245 {a}:Tot (F245 a) (λ_=>True):=t_bd (λ_=>tJF245_3) λ_=>tJF245_3
theorem tF198 {a}:Tot (F198 a) (λ_=>True):=Xb (tF245) λ_ _=>tL
theorem F129_pos {a:G265} (h:F161 a=some true):0<a.fu:=by
 rcases cor h with⟨c,_⟩|⟨_,h⟩
 ·exact of_decide_eq_true c
 ·cases h
theorem tF161 {v0} (a:okG265 v0):Tot (F161 v0) (λ_=>True):=t_bd (λ_=>(by
 have:=a.fu
 exact Xb (t_gshl (by rw[Xp (by omega) (by omega)];omega)) λ_ _=>Xd trivial)) λ_=>Xd trivial
theorem tJF239_11 {c e d f} {a:Int} (g:okG265 c) (h:a<=9223372036854775807):Tot (JF239_11 c e d f a) (λr=>okG265 r.1/\True):=by
 have b:okG265 (⟨c.fT,c.fQ,e,d,f,a⟩:G265):=⟨tI⟩
 exact tL
theorem tJF239_14 {b f g h i d} (a:okG265 b) (e:okG75 i):Tot (JF239_14 b f g h i d) (λr=>okG265 r.1/\True):=Xc (λ_=>(by
 have c:okG265 (⟨b.fT,b.fQ,f,g,h,b.fu⟩:G265):=⟨a.fu⟩
 exact tL)) λ_=>(tJF239_11 a e.fX).mono tM
theorem tJF239_8 {c d e f g} (b:okG75 c) (a:okG265 d):Tot (JF239_8 c d e f g) (λr=>okG265 r.1/\True):=t_bn (λ_=>Xb (tF161 ⟨a.fu⟩) λ_ _=>Xc (λ_=>(tJF239_14 a b).mono tM) λ_=>t_bn (λ_=>t_bn (λ_=>(tJF239_14 a b).mono tM) λ_=>Xb (tF198) λ_ _=>(tJF239_14 a b).mono tM) λ_=>Xb (tF198) λ_ _=>(tJF239_14 a b).mono tM) λ_=>(tJF239_11 a a.fu).mono tM
theorem tJF239_33 {a c f} (b:okG265 a) (e:okG75 c):Tot (JF239_33 a c f) (λr=>okG265 r.1/\True):=Xc (λ_=>(by
 have d:okG265 (⟨a.fT,a.fQ,ior .i64 a.fH c.fy,c.fy,false,a.fu⟩:G265):=⟨b.fu⟩
 exact tL)) λ_=>(tJF239_8 e b).mono tM
theorem tJF239_37 {a d f} (b:okG265 a) (e:okG75 d):Tot (JF239_37 a d f) (λr=>okG265 r.1/\True):=Xc (λ_=>(by
 have c:okG265 (⟨a.fT,a.fQ,ior .i64 a.fH d.fy,d.fy,false,a.fu⟩:G265):=⟨b.fu⟩
 exact tL)) λ_=>(tJF239_8 e b).mono tM
theorem tJF239_27 {e f g} (a:okG265 e) (d:okG75 f):Tot (JF239_27 e f g) (λr=>okG265 r.1/\True):=Xc (λc=>Xd ⟨⟨a.fu⟩,trivial⟩) λc=>Xb tF198 λ_ _=>t_be (λc=>Xc (λ_=>tJF239_33 a d) λ_=>tJF239_33 a d) λ_=>Xc (λ_=>tJF239_37 a d) λ_=>Xc (λ_=>(by
 obtain⟨b,h,_⟩:=tF161 (v0:=⟨e.fT,e.fQ,ior .i64 e.fH f.fy,f.fy,false,e.fu⟩) ⟨a.fu⟩
 rw[h]
 cases b with
 |false=>simp only[Option.bind_some,Bool.not_false,cond_true];exact tJF239_37 a d
 |true=>
  have:=F129_pos h
  simp only[Option.bind_some,Bool.not_true,cond_false]
  exact Xb (t_gshl (by dsimp only at this;omega)) λ_ _=>tJF239_37 a d)) λ_=>tJF239_37 a d
theorem tJF239_3 {a f g} (b:okG265 a) (c:okG75 f):Tot (JF239_3 a f g) (λr=>okG265 r.1/\True):=Xc (λ_=>(by
 have e:okG265 (⟨a.fT,a.fQ,a.fH,a.faa,a.fan,a.fu⟩:G265):=⟨b.fu⟩
 exact tL)) λ_=>t_bn (λ_=>t_bn (λ_=>Xc (λ_=>(tJF239_27 b c).mono tM) λ_=>(tJF239_27 b c).mono tM) λ_=>(tJF239_27 b c).mono tM) λ_=>Xc (λ_=>(by
 have d:okG265 (⟨a.fT,a.fQ,a.fH,a.faa,a.fan,a.fu⟩:G265):=⟨b.fu⟩
 exact tL)) λ_=>(tJF239_8 c b).mono tM
theorem tF239 {d c} (b:okG265 d) (a:okG75 c):Tot (F239 d c) (λr=>okG265 r.1/\True):=Xc (λ_=>(tJF239_3 b a).mono tM) λ_=>(tJF239_3 b a).mono tM
theorem tJF160_18 {i e d b c f} {a:Int} (j:okG75 i) (k:a<=9223372036854775807):Tot (JF160_18 i e d b c f a) (λr=>okG265 r.1/\True):=t_bn (λ_=>(by
 have g:okG265 (⟨false,0,0,0,false,0⟩:G265):=⟨tI⟩
 exact tL)) λ_=>(by
 have h:okG265 (⟨e,wi (d+1),b,c,f,a⟩:G265):=⟨tI⟩
 exact tL)
theorem tJF160_11 {i e d g f h} {a:Int} (b:okG75 i) (j:a<=9223372036854775807):Tot (JF160_11 i e d g f h a) (λr=>okG265 r.1/\True):=Xc (λ_=>Xc (λ_=>(by
 have c:okG265 (⟨e,d,g,f,h,a⟩:G265):=⟨tI⟩
 exact tL)) λ_=>(tJF160_18 b tI).mono tM) λ_=>(tJF160_18 b tI).mono tM
theorem tF160 {b j} (a:okG265 b) (d:okG75 j):Tot (F160 b j) (λr=>okG265 r.1/\True):=t_bn (λ_=>Xb (tF239 a d) λe i=>(by
 obtain⟨c,h⟩:=i
 have g:okG265 (⟨e.1.fT,e.1.fQ,e.1.fH,e.1.faa,e.1.fan,e.1.fu⟩:G265):=⟨c.fu⟩
 exact tL)) λ_=>t_bn (λ_=>Xb (tF161 a) λ_ _=>Xc (λ_=>(by
 have f:okG265 (⟨b.fT,b.fQ,b.fH,b.faa,b.fan,b.fu⟩:G265):=⟨a.fu⟩
 exact tL)) λ_=>(tJF160_11 d tI).mono tM) λ_=>(tJF160_11 d a.fu).mono tM
theorem Ur {e:G27} {f} {b:List G159} {c} (a:okG27 e) (g:b.length+1<=500000000000) (h:0<ln e.fc):Tot (Zv e f b c) (λr=>r.length<=b.length+1):=have d:=(a.fc).le;t_bi (Xi (a.fc) tI tI) λ_ _ _=>Xb (Yb a tI) λ_ _=>tL
theorem tJF73_1_16 {e:G27} {s} {m:List G159} {c:Bool} {p j i g} {d:Int} (b:okG27 e) (t:m.length+1<=500000000000) (l:c=true->(0<ln e.fc)) (u:d<=9223372036854775807) (q:c=false->(0<ln e.fc)):Tot (JF73_1_16 e s m c p j i g d) (λr=>r.length<=m.length+1):=Xc (λa=>t_be (λ_=>have k:=l a;(Ur b tI tI).mono tM) λ_=>t_bn (λ_=>Xb (tF161 ⟨tI⟩) λ_ _=>have f:=l a;(Ur b tI tI).mono tM) λ_=>have h:=l a;(Ur b tI tI).mono tM) λa=>t_bn (λ_=>Xb (tF161 ⟨tI⟩) λ_ _=>have n:=q a;(Ur b tI tI).mono tM) λ_=>have o:=q a;(Ur b tI tI).mono tM
theorem tLF73_1_54w {o u} {k:List G159} {a f l n h e d} (b:okG27 o) (t:k.length+1<=500000000000) (q:d<=9223372036854775807) (v:0<=a) (w:a<=10):Tot (LF73_1_54 o u k a f l n h e d) (λr=>match r with
  |.inl (i,_,_,_,_,_,p)=>p<=9223372036854775807/\i=a+1/\a<10
  |.inr (.inl r)=>r.length<=k.length+1
  |.inr (.inr (_,_,_,_,_,p))=>p<=9223372036854775807):=have x:=(b.fc).le;t_bd (λc=>Xb (Xi b.fc v c) λ_ m=>Xb (tF160 ⟨q⟩ m.1) λ_ g=>Xc (λ_=>Xb (Yb b t) λs j=>Xd j) λ_=>Xd ⟨g.1.fu,Xp (by omega) (by omega),by show a<10;omega⟩) λc=>Xd q
theorem tF73_1 {j:G27} {q} {g:List G159} (f:okG27 j) (s:g.length+22<=500000000000) (m:0<ln j.fc):Tot (Ve j q g) (λr=>r.length<=g.length+22):=Xb (tF131_6 f (by omega)) λo _=>Xc (λ_=>Xd (by omega)) λ_=>Xb (Xe (λ(i,_,_,_,_,_,_)=>i) 10 (by decide) (λ(_,_,_,_,_,_,p)=>p<=9223372036854775807) (T:=λr=>match r with|.inl r=>r.length<=o.length+1|.inr (_,_,_,_,_,p)=>p<=9223372036854775807) (by decide) (by decide) (by decide) (λ⟨i,a,b,c,d,e,p⟩ l n k=>(by
 dsimp only at l n k ⊢
 refine(tLF73_1_54w f (by omega) l n k).mono ?_
 rintro(⟨i,_,_,_,_,_,p⟩|r|⟨_,_,_,_,_,p⟩) h
 ·exact h
 ·exact h
 ·exact h))) ((by
 rintro(r|⟨_,_,_,_,_,p⟩) h
 ·exact Xd (by dsimp only at h ⊢;omega)
 ·exact(tJF73_1_16 f (by omega) (λ_=>m) h (λ_=>m)).mono λr hr=>by omega))
theorem tF163_1 {b a} (d:okG75 b) (c:okG75 a):Tot (F163_1 b a) (λ_=>True):=t_bn (λ_=>t_bn (λ_=>tL) λ_=>tL) λ_=>tL
theorem tJF240_1_2:Tot (JF240_1_2 ) (λ_=>True):=tL
theorem tLF240_1_9 {h:Sl G75} {g} {c:Int} (a:(OkSl okG75 1000) h) (e:okG75 g) (j:0<=c) (i:c<=1000):Tot (LF240_1_9 h g c) (λr=>match r with|.inl r=>(r=c+1/\c<1000)|.inr (.inl r)=>True|.inr (.inr r)=>True):=t_bd (λ_=>have d:=(a).le;t_bi (Xi a tI tI) λ_ b _=>Xb (tF163_1 b e) λ_ _=>Xc (λ_=>tL) λ_=>tL) λ_=>have f:=(a).le;tL
theorem tF240_1 {e:Sl G75} {d} (c:(OkSl okG75 1000) e) (b:okG75 d):Tot (F240_1 e d) (λ_=>True):=Xb (Xe (λf=>f) 1000 (by decide) (λf=>True) (T:=tru) tB tB tZ (λ_ _ g h=>(tLF240_1_9 c b g h).mono tM)) ((by
 rintro(i|⟨⟩) a
 ·try dsimp only at a ⊢
  exact tL
 ·try dsimp only at a ⊢
  exact tJF240_1_2))
theorem tF164_1 {d:Sl G75} {c} (b:(OkSl okG75 1000) d) (a:okG75 c):Tot (F164_1 d c) (λ_=>True):=Xb (tF240_1 b a) λ_ _=>tL
theorem tF297_1 {a b} (c:okG75 a):Tot (F297_1 a b) (λ_=>True):=tL
theorem tJF240_2_2:Tot (JF240_2_2 ) (λ_=>True):=tL
theorem tLF240_2_9 {f:Sl G75} {g} {c:Int} (a:(OkSl okG75 1000) f) (i:0<=c) (h:c<=1000):Tot (LF240_2_9 f g c) (λr=>match r with|.inl r=>(r=c+1/\c<1000)|.inr (.inl r)=>True|.inr (.inr r)=>True):=t_bd (λ_=>have e:=(a).le;t_bi (Xi a tI tI) λ_ b _=>Xb (tF297_1 b) λ_ _=>Xc (λ_=>tL) λ_=>tL) λ_=>have d:=(a).le;tL
theorem tF240_2 {c:Sl G75} {f} (b:(OkSl okG75 1000) c):Tot (F240_2 c f) (λ_=>True):=Xb (Xe (λd=>d) 1000 (by decide) (λd=>True) (T:=tru) tB tB tZ (λ_ _ e g=>(tLF240_2_9 b e g).mono tM)) ((by
 rintro(h|⟨⟩) a
 ·try dsimp only at a ⊢
  exact tL
 ·try dsimp only at a ⊢
  exact tJF240_2_2))
theorem tF242_1 {e b d} {c:List G159} (a:okG27 b) (f:c.length+0<=500000000000):Tot (F242_1 e b d c) (λ_=>True):=Xb (tF240_2 (a.fc).mono) λ_ _=>tL
theorem tF241_1 {e c d} {b:List G159} {f} (a:okG27 c) (g:b.length+0<=500000000000):Tot (F241_1 e c d b f) (λ_=>True):=Xb (tF242_1 a tI) λ_ _=>Xb (Wv) λ_ _=>tL
theorem tJF165_1_19 {c f} {d:List G159} {e b} (a:okG27 c) (g:d.length+0<=500000000000):Tot (JF165_1_19 c f d e b) (λ_=>True):=Xc (λ_=>Xb (tF241_1 a tI) λ_ _=>Xc (λ_=>Xb (tF242_1 a tI) λ_ _=>Xb (tF242_1 a tI) λ_ _=>tL) λ_=>tL) λ_=>tL
theorem tJF165_1_9 {b e} {c:List G159} {f g d} (a:okG27 b) (h:c.length+0<=500000000000):Tot (JF165_1_9 b e c f g d) (λ_=>True):=Xc (λ_=>Xb (tF241_1 a tI) λ_ _=>tL) λ_=>t_be (λ_=>tJF165_1_19 a tI) λ_=>tJF165_1_19 a tI
theorem tJF165_1_6 {f b g} {c:List G159} {e d} (a:okG27 b) (h:c.length+0<=500000000000):Tot (JF165_1_6 f b g c e d) (λ_=>True):=Xc (λ_=>tL) λ_=>t_be (λ_=>tJF165_1_9 a tI) λ_=>tJF165_1_9 a tI
theorem tF165_1 {e d b f} {c:List G159} (a:okG27 b) (g:c.length+0<=500000000000):Tot (F165_1 e d b f c) (λ_=>True):=t_bd (λ_=>Xb (tF241_1 a tI) λ_ _=>tJF165_1_6 a tI) λ_=>tJF165_1_6 a tI
theorem Wl {c:G27} {e:Int} {i r} {k:List G159} {o} (a:okG27 c) (d:okG75 i) (s:k.length+0<=500000000000) (g:0<=e/\e<ln c.fc):Tot (Zw c e i r k o) (λ_=>True):=Xc (λ_=>tL) (λ_=>Xb (t_gslR (by omega) g.1 (by simp only[ln]at g;omega)) λq b=>(by
 have n:OkSl okG75 1000 q:=by
  refine⟨?_,λx f=>?_⟩
  ·have:=(a.fc).le;simp only[ln]at this ⊢;rw[b];simp only[List.length_drop,List.length_take];omega
  ·rw[b]at f;exact(a.fc).2 x (List.mem_of_mem_take (List.mem_of_mem_drop f))
 refine Xb (tF164_1 n d) λl h=>?_
 refine Xc (λp=>?_) (λp=>?_)
 ·exact tL
 ·refine Xb (tF165_1 a tI) λm j=>?_
  exact tL))
theorem tF162_1 {d:Int} {e} {c:G27} {g} {f:List G159} (b:okG75 e) (a:okG27 c) (h:f.length+0<=500000000000) (i:0<=d/\d<ln c.fc):Tot (F162_1 d e c g f) (λ_=>True):=Xb (Wv) λ_ _=>Xc (λ_=>Wl a b tI tI) λ_=>Xb (Wv) λ_ _=>Xc (λ_=>Wl a b tI tI) λ_=>t_bn (λ_=>t_bn (λ_=>Wl a b tI tI) λ_=>Wl a b tI tI) λ_=>t_bn (λ_=>t_bn (λ_=>Wl a b tI tI) λ_=>Wl a b tI tI) λ_=>Wl a b tI tI
theorem tLF131_7_11 {g h} {c:Int} {d:List G159} (a:okG27 g) (i:d.length+1<=500000000000) (k:0<=c) (j:c<=10):Tot (LF131_7_11 g h c d) (λr=>match r with|.inl r=>(r.1=c+1/\c<10)/\r.2.length<=d.length+1|.inr r=>r.length<=d.length+1):=t_bd (λ_=>have f:=(a.fc).le;t_bi (Xi (a.fc) tI tI) λ_ b _=>Xb (tF162_1 b a tI tI) λ_ _=>Xb (Yb a tI) λ_ _=>tL) λ_=>have e:=(a.fc).le;tL
theorem tF131_7 {h i} {a:List G159} (e:okG27 h) (k:a.length+11<=500000000000):Tot (F131_7 h i a) (λr=>r.length<=a.length+11):=Xb (Xe (λ(b,c)=>b) 10 (by decide) (λ(b,c)=>(c.length:Int)<=a.length+0+1*b) (T:=λr=>r.length<=a.length+11) tB tB tZ (λ⟨b,c⟩ j f g=>(by
 try dsimp only at j f g ⊢
 refine(tLF131_7_11 e tI f g).mono ?_
 exact tM))) λ_ d=>(by
 try dsimp only at d ⊢
 exact tL)
theorem tF74_1 {c d} {a:List G159} (b:okG27 c) (e:a.length+11<=500000000000):Tot (Wt c d a) (λr=>r.length<=a.length+11):=Xb (tF131_7 b tI) λ_ _=>tL
theorem tJF166_7 {a}:Tot (JF166_7 a) (λ_=>True):=tL
theorem tLF166_15 {e f g} {b:Int} (a:okG75 e) (i:0<=b) (h:b<=5):Tot (LF166_15 e f g b) (λr=>match r with|.inl r=>True/\(r.2=b+1/\b<5)|.inr r=>True):=t_bd (λ_=>have c:=(a.fm).le;t_bi (Xi (a.fm) tI tI) λ_ _ _=>Xc (λ_=>tL) λ_=>Xb (Wv) λ_ _=>Xc (λ_=>tL) λ_=>Xb (Wv) λ_ _=>Xc (λ_=>tL) λ_=>t_bd (λ_=>t_bi (Xi (a.fm) tI tI) λ_ _ _=>tL) λ_=>tL) λ_=>have d:=(a.fm).le;tL
theorem tJF166_5 {d e h} (b:okG75 d):Tot (JF166_5 d e h) (λ_=>True):=Xb (Xe (λ(c,a)=>a) 5 (by decide) (λ(c,a)=>True) (T:=tru) tB tB tZ (λ⟨c,a⟩ i f g=>(tLF166_15 b f g).mono tM)) λ_ _=>tJF166_7
theorem tF166 {c b} (a:okG75 b):Tot (F166 c b) (λ_=>True):=Xb (tF99 a) λ_ _=>t_bn (λ_=>Xb (Wv) λ_ _=>Xc (λ_=>tJF166_5 a) λ_=>Xb (Wv) λ_ _=>tJF166_5 a) λ_=>Xb (Wv) λ_ _=>tJF166_5 a
theorem tLF131_8_11 {g h} {c:Int} {d:List G159} (a:okG27 g) (i:d.length+1<=500000000000) (k:0<=c) (j:c<=10):Tot (Qb g h c d) (λr=>match r with|.inl r=>(r.1=c+1/\c<10)/\r.2.length<=d.length+1|.inr r=>r.length<=d.length+1):=t_bd (λ_=>have f:=(a.fc).le;t_bi (Xi (a.fc) tI tI) λ_ b _=>Xb (tF166 b) λ_ _=>Xb (Yb a tI) λ_ _=>tL) λ_=>have e:=(a.fc).le;tL
theorem tF131_8 {h i} {a:List G159} (e:okG27 h) (k:a.length+11<=500000000000):Tot (F131_8 h i a) (λr=>r.length<=a.length+11):=Xb (Xe (λ(b,c)=>b) 10 (by decide) (λ(b,c)=>(c.length:Int)<=a.length+0+1*b) (T:=λr=>r.length<=a.length+11) tB tB tZ (λ⟨b,c⟩ j f g=>(by
 try dsimp only at j f g ⊢
 refine(tLF131_8_11 e tI f g).mono ?_
 exact tM))) λ_ d=>(by
 try dsimp only at d ⊢
 exact tL)
theorem tF75_1 {c d} {a:List G159} (b:okG27 c) (e:a.length+11<=500000000000):Tot (Zt c d a) (λr=>r.length<=a.length+11):=Xb (tF131_8 b tI) λ_ _=>tL
theorem tJF167_1_14 {f:G27} {g:Int} {d:G236×Bool} {v13:Bool} (e:okG27 f) (h:v13=false->(0<=g/\g<ln f.fc)/\0<=d.1.fo/\d.1.fo<ln f.fc):Tot (Qd f g d v13) (λ_=>True):=Xc (λ_=>Xd trivial) λc=>(by
 obtain⟨a,b⟩:=h c
 refine Xb (Xi e.fc a.1 a.2) λj _=>?_
 refine Xb (Xi e.fc b.1 b.2) λi _=>?_
 repeat' (first|exact Xd trivial|refine Xc (λ_=>?_) λ_=>?_))
theorem F36_pos {s:G27} {m c v:Int} {r:Sl G147} (h:F226 s m c v=some r) (hr:0<ln r):∃ M C V,gx (Sl.es s.fc) m=some M/\gx (Sl.es M.ff) c=some C/\gx (Sl.es C.fh) v=some V/\r=V.fg:=by
 have a:∀ {b:Bool},Vq s m c v b=some r->∃ M C V,gx (Sl.es s.fc) m=some M/\gx (Sl.es M.ff) c=some C/\gx (Sl.es C.fh) v=some V/\r=V.fg:=by
  intro b h
  unfold Vq at h
  rcases cor h with⟨_,h⟩|⟨_,h⟩
  ·cases h
   simp[ln,Sl.es]at hr
  ·obtain⟨M,d,h⟩:=Xa h
   obtain⟨C,e,h⟩:=Xa h
   obtain⟨V,f,h⟩:=Xa h
   cases h
   exact⟨M,C,V,d,e,f,rfl⟩
 rcases cor h with⟨_,h⟩|⟨_,h⟩
 ·exact a h
 rcases cor h with⟨_,h⟩|⟨_,h⟩
 ·exact a h
 rcases cor h with⟨_,h⟩|⟨_,h⟩
 ·exact a h
 obtain⟨_,_,h⟩:=Xa h
 rcases cor h with⟨_,h⟩|⟨_,h⟩
 ·exact a h
 rcases cor h with⟨_,h⟩|⟨_,h⟩
 ·exact a h
 obtain⟨_,_,h⟩:=Xa h
 obtain⟨_,_,h⟩:=Xa h
 exact a h
theorem F20_true {s:G27} {p q:G236} (h:F152 s p=some (q,true)):(0<=p.fo/\p.fo<ln s.fc)/\0<=q.fo/\q.fo<ln s.fc:=by
 obtain⟨z,o,h⟩:=Xa h
 rcases cor h with⟨_,h⟩|⟨c,h⟩
 ·cases h
 have e:z=0:=by simpa using c
 subst e
 obtain⟨r,n⟩:=F34_zero o
 obtain⟨m,f,h⟩:=Xa h
 have w:=n m f
 obtain⟨M,C,V,a,_⟩:=F36_pos f (by omega)
 have a:=Ya a
 rcases cor h with⟨_,h⟩|⟨_,h⟩
 ·obtain⟨u,g,h⟩:=Xa h
  cases g
  cases h
  exact⟨a,a⟩
 ·obtain⟨i,b,h⟩:=Xa h
  rcases cor h with⟨k,h⟩|⟨_,h⟩
  ·obtain⟨j,d,h⟩:=Xa h
   cases d
   cases h
   obtain⟨x,v,t,l,_⟩:=F36_pos b (of_decide_eq_true k)
   exact⟨a,Ya l⟩
  ·cases h
theorem tF167_1 {e g j n o l i m f r} {c:List G159} (d:okG147 m) (a:okG27 f) (s:c.length+0<=500000000000):Tot (F167_1 e g j n o l i m f r c) (λ_=>True):=by
 unfold F167_1
 obtain⟨⟨q,b⟩,k,_⟩:=tF152 (v0:=f) (v1:=⟨e,g,j,n,o,l,i⟩) a
 rw[k]
 simp only[Option.bind_some]
 cases b with
 |false=>simp only[Bool.not_false,cond_true];exact tJF167_1_14 (v13:=true) a (by intro h;cases h)
 |true=>
  have q:=F20_true k
  simp only[Bool.not_true,cond_false]
  refine Xb (tF151 d) λp _=>?_
  exact Xc (λ_=>tJF167_1_14 (v13:=true) a (by intro h;cases h)) λ_=>tJF167_1_14 a λ_=>q
theorem tJF140_5_14 {b:Int} {a:List G159} (c:a.length+0<=500000000000) (d:0<=b) (e:b<10):Tot (Qg b a) (λr=>match r with|.inl r=>(r.1=b+1/\b<10)/\r.2.length<=a.length+0|.inr r=>r.length<=a.length+0):=tL
theorem tJF140_5_27 {a:Int} {b:List G159} (c:b.length+0<=500000000000) (d:0<=a) (e:a<5):Tot (Qf a b) (λr=>match r with|.inl r=>(r.1=a+1/\a<5)/\r.2.length<=b.length+0|.inr r=>r.length<=b.length+0):=tL
theorem tJF140_5_40 {a:Int} {b:List G159} (c:b.length+0<=500000000000) (d:0<=a) (e:a<3):Tot (Qe a b) (λr=>match r with|.inl r=>(r.1=a+1/\a<3)/\r.2.length<=b.length+0|.inr r=>r.length<=b.length+0):=tL
theorem tLF140_5_50 {d j m h k l} {b:Int} {c:List G159} (a:okG100 d) (f:okG27 k) (n:c.length+1<=500000000000) (p:0<=b) (o:b<=1000):Tot (LF140_5_50 d j m h k l b c) (λr=>match r with|.inl r=>(r.1=b+1/\b<1000)/\r.2.length<=c.length+1|.inr r=>r.length<=c.length+1):=t_bd (λ_=>have g:=(a.fg).le;t_bi (Xi (a.fg) tI tI) λ_ e _=>Xb (tF167_1 e f tI) λ_ _=>Xb (Yb f tI) λ_ _=>tL) λ_=>have i:=(a.fg).le;tL
theorem tLF140_5_37 {f k s n q} {c:Int} {a:List G159} (b:okG95 f) (i:okG27 n) (t:a.length+1001<=500000000000) (v:0<=c) (u:c<=3):Tot (LF140_5_37 f k s n q c a) (λr=>match r with|.inl r=>(r.1=c+1/\c<3)/\r.2.length<=a.length+1001|.inr r=>r.length<=a.length+1001):=t_bd (λ_=>have l:=(b.fh).le;t_bi (Xi (b.fh) tI tI) λ_ g _=>Xb (Xe (λ(d,e)=>d) 1000 (by decide) (λ(d,e)=>(e.length:Int)<=a.length+0+1*d) (T:=λr=>r.length<=a.length+1001) tB tB tZ (λ⟨d,e⟩ p o m=>(by
 try dsimp only at p o m ⊢
 refine(tLF140_5_50 g i tI o m).mono ?_
 exact tM))) λ_ h=>(by
 try dsimp only at h ⊢
 exact(tJF140_5_40 tI tI tI).mono tM)) λ_=>have j:=(b.fh).le;tL
theorem tLF140_5_24 {f q m p} {c:Int} {a:List G159} (b:okG75 f) (i:okG27 m) (s:a.length+4004<=500000000000) (u:0<=c) (t:c<=5):Tot (LF140_5_24 f q m p c a) (λr=>match r with|.inl r=>(r.1=c+1/\c<5)/\r.2.length<=a.length+4004|.inr r=>r.length<=a.length+4004):=t_bd (λ_=>have k:=(b.ff).le;t_bi (Xi (b.ff) tI tI) λ_ g _=>Xb (Xe (λ(d,e)=>d) 3 (by decide) (λ(d,e)=>(e.length:Int)<=a.length+0+1001*d) (T:=λr=>r.length<=a.length+4004) tB tB tZ (λ⟨d,e⟩ o n l=>(by
 try dsimp only at o n l ⊢
 refine(tLF140_5_37 g i tI n l).mono ?_
 exact tM))) λ_ h=>(by
 try dsimp only at h ⊢
 exact(tJF140_5_27 tI tI tI).mono tM)) λ_=>have j:=(b.ff).le;tL
theorem tLF140_5_11 {k n} {g:Int} {d:List G159} (a:okG27 k) (o:d.length+24024<=500000000000) (q:0<=g) (p:g<=10):Tot (LF140_5_11 k n g d) (λr=>match r with|.inl r=>(r.1=g+1/\g<10)/\r.2.length<=d.length+24024|.inr r=>r.length<=d.length+24024):=t_bd (λ_=>have i:=(a.fc).le;t_bi (Xi (a.fc) tI tI) λ_ e _=>Xb (Xe (λ(b,c)=>b) 5 (by decide) (λ(b,c)=>(c.length:Int)<=d.length+0+4004*b) (T:=λr=>r.length<=d.length+24024) tB tB tZ (λ⟨b,c⟩ m l j=>(by
 try dsimp only at m l j ⊢
 refine(tLF140_5_24 e a tI l j).mono ?_
 exact tM))) λ_ f=>(by
 try dsimp only at f ⊢
 exact(tJF140_5_14 tI tI tI).mono tM)) λ_=>have h:=(a.fc).le;tL
theorem tF140_5 {h i} {a:List G159} (e:okG27 h) (k:a.length+264264<=500000000000):Tot (F140_5 h i a) (λr=>r.length<=a.length+264264):=Xb (Xe (λ(b,c)=>b) 10 (by decide) (λ(b,c)=>(c.length:Int)<=a.length+0+24024*b) (T:=λr=>r.length<=a.length+264264) tB tB tZ (λ⟨b,c⟩ j f g=>(by
 try dsimp only at j f g ⊢
 refine(tLF140_5_11 e tI f g).mono ?_
 exact tM))) λ_ d=>(by
 try dsimp only at d ⊢
 exact tL)
theorem tF76_1 {c d} {a:List G159} (b:okG27 c) (e:a.length+264264<=500000000000):Tot (Zx c d a) (λr=>r.length<=a.length+264264):=Xb (tF140_5 b tI) λ_ _=>tL
theorem Vn {b} {a:List G159} (c:a.length+0<=500000000000):Tot (Wa b a) (λr=>ln r<=a.length+0):=tL
theorem tJF29_117 {a:List G159} {d b} (c:okG27 d) (e:a.length+264264<=500000000000):Tot (Vb a d b) (λr=>ln r<=a.length+264264):=Xc (λ_=>(Vn tI).mono tM) λ_=>Xb (tF76_1 c tI) λ_ _=>(Vn tI).mono tM
theorem tJF29_109 {a:List G159} {h d} (c:okG27 h) (i:a.length+264275<=500000000000):Tot (Vc a h d) (λr=>ln r<=a.length+264275):=Xc (λ_=>(Vn tI).mono tM) λ_=>Xb (tF75_1 c tI) λ_ _=>t_bd (λb=>(by
 simp only[lnl]at b
 refine t_bi (t_gxL tI tI) λg e f=>?_
 exact(tJF29_117 c tI).mono tM)) λb=>(by
 simp only[lnl]at b
 exact(tJF29_117 c tI).mono tM)
theorem tJF29_101 {b:List G159} {h d} (c:okG27 h) (i:b.length+264286<=500000000000):Tot (Vd b h d) (λr=>ln r<=b.length+264286):=Xc (λ_=>(Vn tI).mono tM) λ_=>Xb (tF74_1 c tI) λ_ _=>t_bd (λa=>(by
 simp only[lnl]at a
 refine t_bi (t_gxL tI tI) λg f e=>?_
 exact(tJF29_109 c tI).mono tM)) λa=>(by
 simp only[lnl]at a
 exact(tJF29_109 c tI).mono tM)
theorem tJF29_93 {b:List G159} {i:G27} {e:Bool} (c:okG27 i) (l:b.length+264308<=500000000000) (k:e=false->(0<ln i.fc)):Tot (Ud b i e) (λr=>ln r<=b.length+264308):=Xc (λ_=>(Vn tI).mono tM) λd=>have h:=k d;Xb (tF73_1 c tI tI) λ_ _=>t_bd (λa=>(by
 simp only[lnl]at a
 refine t_bi (t_gxL tI tI) λj f g=>?_
 exact(tJF29_101 c tI).mono tM)) λa=>(by
 simp only[lnl]at a
 exact(tJF29_101 c tI).mono tM)
theorem tJF29_85 {d:List G159} {k:G27} {f:Bool} (e:okG27 k) (o:d.length+264319<=500000000000) (m:f=false->(0<ln k.fc)):Tot (Ue d k f) (λr=>ln r<=d.length+264319):=Xc (λ_=>(Vn tI).mono tM) λc=>Xb (tF72_1 e tI) λ_ _=>t_bd (λa=>(by
 simp only[lnl]at a
 refine t_bi (t_gxL tI tI) λl h i=>?_
 have g:=m c
 exact(tJF29_93 e tI (by intro b;replace b:=of_decide_eq_false b;exact tI)).mono tM)) λa=>(by
 simp only[lnl]at a
 have j:=m c
 exact(tJF29_93 e tI (by intro n;exact tI)).mono tM)
theorem tJF29_77 {e:List G159} {j:G27} {f:Bool} (d:okG27 j) (o:e.length+264330<=500000000000) (m:f=false->(0<ln j.fc)):Tot (Uf e j f) (λr=>ln r<=e.length+264330):=Xc (λ_=>(Vn tI).mono tM) λc=>Xb (tF71_1 d tI) λ_ _=>t_bd (λa=>(by
 simp only[lnl]at a
 refine t_bi (t_gxL tI tI) λn g h=>?_
 have k:=m c
 exact(tJF29_85 d tI (by intro b;replace b:=of_decide_eq_false b;exact tI)).mono tM)) λa=>(by
 simp only[lnl]at a
 have i:=m c
 exact(tJF29_85 d tI (by intro l;exact tI)).mono tM)
theorem tJF29_69 {d:List G159} {h:G27} {f:Bool} (e:okG27 h) (o:d.length+528594<=500000000000) (n:f=false->(0<ln h.fc)):Tot (Ug d h f) (λr=>ln r<=d.length+528594):=Xc (λ_=>(Vn tI).mono tM) λb=>Xb (tF70_1 e tI) λ_ _=>t_bd (λa=>(by
 simp only[lnl]at a
 refine t_bi (t_gxL tI tI) λm k g=>?_
 have i:=n b
 exact(tJF29_77 e tI (by intro c;replace c:=of_decide_eq_false c;exact tI)).mono tM)) λa=>(by
 simp only[lnl]at a
 have j:=n b
 exact(tJF29_77 e tI (by intro l;exact tI)).mono tM)
theorem tJF29_61 {e:List G159} {g:G27} {f:Bool} (d:okG27 g) (o:e.length+792858<=500000000000) (n:f=false->(0<ln g.fc)):Tot (Uh e g f) (λr=>ln r<=e.length+792858):=Xc (λ_=>(Vn tI).mono tM) λc=>Xb (tF69_1 d tI) λ_ _=>t_bd (λa=>(by
 simp only[lnl]at a
 refine t_bi (t_gxL tI tI) λl i k=>?_
 have h:=n c
 exact(tJF29_69 d tI (by intro b;replace b:=of_decide_eq_false b;exact tI)).mono tM)) λa=>(by
 simp only[lnl]at a
 have j:=n c
 exact(tJF29_69 d tI (by intro m;exact tI)).mono tM)
theorem tJF29_54 {f:G27} {c:List G159} (d:okG27 f) (j:c.length+1057122<=500000000000) (k:0<ln f.fc):Tot (JF29_54 f c) (λr=>ln r<=c.length+1057122):=Xb (tF68_1 d tI) λ_ _=>t_bd (λa=>(by
 simp only[lnl]at a
 refine t_bi (t_gxL tI tI) λh g e=>?_
 exact(tJF29_61 d tI (by intro b;replace b:=of_decide_eq_false b;exact tI)).mono tM)) λa=>(by
 simp only[lnl]at a
 exact(tJF29_61 d tI (by intro i;exact tI)).mono tM)
theorem tJF29_48 {d:G27} {b:List G159} (c:okG27 d) (e:b.length+1321386<=500000000000) (f:0<ln d.fc):Tot (JF29_48 d b) (λr=>ln r<=b.length+1321386):=Xb (tF67_1 c tI) λ_ _=>t_bd (λa=>(by
 simp only[lnl]at a
 exact(tJF29_54 c tI tI).mono tM)) λa=>(by
 simp only[lnl]at a
 exact(tJF29_54 c tI tI).mono tM)
theorem tJF29_42 {d:G27} {b:List G159} (c:okG27 d) (e:b.length+1321397<=500000000000) (f:0<ln d.fc):Tot (JF29_42 d b) (λr=>ln r<=b.length+1321397):=Xb (tF66_1 c tI) λ_ _=>t_bd (λa=>(by
 simp only[lnl]at a
 exact(tJF29_48 c tI tI).mono tM)) λa=>(by
 simp only[lnl]at a
 exact(tJF29_48 c tI tI).mono tM)
theorem tJF29_36 {d:G27} {b:List G159} (c:okG27 d) (f:b.length+1321408<=500000000000) (e:0<ln d.fc):Tot (JF29_36 d b) (λr=>ln r<=b.length+1321408):=Xb (tF65_1 c tI) λ_ _=>t_bd (λa=>(by
 simp only[lnl]at a
 exact(tJF29_42 c tI tI).mono tM)) λa=>(by
 simp only[lnl]at a
 exact(tJF29_42 c tI tI).mono tM)
theorem tJF29_30 {d:G27} {b:List G159} (c:okG27 d) (e:b.length+1321419<=500000000000) (f:0<ln d.fc):Tot (JF29_30 d b) (λr=>ln r<=b.length+1321419):=Xb (tF64_1 c tI) λ_ _=>t_bd (λa=>(by
 simp only[lnl]at a
 exact(tJF29_36 c tI tI).mono tM)) λa=>(by
 simp only[lnl]at a
 exact(tJF29_36 c tI tI).mono tM)
theorem tJF29_24 {d:G27} {b:List G159} (c:okG27 d) (e:b.length+1321460<=500000000000) (f:0<ln d.fc):Tot (JF29_24 d b) (λr=>ln r<=b.length+1321460):=Xb (tF63_1 c tI) λ_ _=>t_bd (λa=>(by
 simp only[lnl]at a
 exact(tJF29_30 c tI tI).mono tM)) λa=>(by
 simp only[lnl]at a
 exact(tJF29_30 c tI tI).mono tM)
theorem tJF29_18 {d:G27} {b:List G159} (c:okG27 d) (e:b.length+1321471<=500000000000) (f:0<ln d.fc):Tot (JF29_18 d b) (λr=>ln r<=b.length+1321471):=Xb (tF62_1 c tI) λ_ _=>t_bd (λa=>(by
 simp only[lnl]at a
 exact(tJF29_24 c tI tI).mono tM)) λa=>(by
 simp only[lnl]at a
 exact(tJF29_24 c tI tI).mono tM)
theorem tJF29_11 {e:List G159} {h:G27} {d:Bool} (c:okG27 h) (j:e.length+2321473<=500000000000) (i:d=false->(0<ln h.fc)):Tot (JF29_11 e h d) (λr=>ln r<=e.length+2321473):=Xc (λ_=>(Vn tI).mono tM) λb=>Xb (tF61_1 c tI) λ_ _=>t_bd (λa=>(by
 simp only[lnl]at a
 have g:=i b
 exact(tJF29_18 c tI tI).mono tM)) λa=>(by
 simp only[lnl]at a
 have f:=i b
 exact(tJF29_18 c tI tI).mono tM)
theorem tJF29_4 {d:G27} (b:okG27 d) (f:0<ln d.fc):Tot (JF29_4 d) (λr=>ln r<=2321490):=Xb (tF60_1 b tI) λ_ c=>(by
 simp only[List.length_nil,Nat.zero_add]at c
 refine t_bd (λa=>?_) λa=>?_
 ·simp only[lnl]at a
  exact(tJF29_11 b tI (by intros;simp_all only [Bool.false_eq_true,Bool.true_eq_false,reduceCtorEq])).mono tM
 ·simp only[lnl]at a
  exact(tJF29_11 b tI (by intro e;exact tI)).mono tM)
theorem F99_2_pos {a b s r l c} (h:Vm true a b s r l=some c):0<c.length:=by
 unfold Vm at h
 obtain⟨q,d,h⟩:=Xa h
 cases h
 unfold gapp at d
 split at d
 ·cases d
  simp only[List.length_append,Sl.es,List.length_cons]
  omega
 ·cases d
theorem F61_1_pos {s r l a} (h:F60_1 s r l=some a) (i:ln s.fc=0):0<a.length:=by
 obtain⟨_,_,h⟩:=Xa h
 obtain⟨_,_,h⟩:=Xa h
 have b:∀ {l a:List G159},((Vm true 0 0 s r l).bind λv=>some v)=some a->0<a.length:=λh=>by
  obtain⟨v,g,h⟩:=Xa h
  cases h
  exact F99_2_pos g
 obtain⟨_,_,h⟩:=Xa h
 rcases cor h with⟨_,h⟩|⟨_,h⟩
 ·exact b h
 obtain⟨_,_,h⟩:=Xa h
 rcases cor h with⟨_,h⟩|⟨_,h⟩
 ·exact b h
 obtain⟨f,d,h⟩:=Xa h
 rw[i]at d
 rcases cor h with⟨_,h⟩|⟨c,h⟩
 ·exact b h
 ·have e:F125 0 1 1024=some false:=rfl
  cases d.symm.trans e
  cases c
theorem tF29 {b} (a:okG27 b):Tot (F29 b) (λr=>ln r<=10000000):=by
 by_cases hm:0<ln b.fc
 ·exact Xc (λ_=>(tJF29_4 a hm).mono λr h=>by omega) λ_=>(tJF29_4 a hm).mono λr h=>by omega
 ·have f:Tot (JF29_4 b) (λr=>ln r<=10000000):=by
   unfold JF29_4
   obtain⟨e,d,g⟩:=tF60_1 (v1:=1) (v2:=[]) a (by decide)
   have i:=F61_1_pos d (by have:=(a.fc).le;omega)
   rw[d]
   simp only[Option.bind_some]
   refine t_bd (λ_=>?_) λc=>absurd (show lnl e>0 by simp only[lnl];omega) c
   show Tot (Wa 2 e) _
   unfold Wa
   refine Xd ?_
   rw[ln_mk]
   simp only[List.length_nil]at g
   omega
  exact Xc (λ_=>f) λ_=>f
end Go.Proofs.YtibndgdocbbbeaaGreat
