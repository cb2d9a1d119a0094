/- A part of the proof. -/
import Derived.Test.YtibndgdocbbbeaaGreatHF
import Derived.Test.YtibndgdocbbbeaaGreatFT
import Derived.Test.YtibndgdocbbbeaaGreatTC
set_option linter.all false
set_option maxRecDepth 100000
set_option maxHeartbeats 40000000
set_option synthInstance.maxSize 100000
namespace Go.Proofs.YtibndgdocbbbeaaGreat
open Go.PE
noncomputable section
def F326 (b:Sl G425) (a:Int):Option Int:=some (tcheck (b.es.map λt=>⟨t.fav,t.fI,t.fap,t.far⟩) a)
def F202 (a:Int):Option Bool:=bif (decide (a<32))then (some true)else (some (a==127))
def JF275_1_1:Option Int:=some (-1)
def LF275_1_8 (d:Sl Int) (a:Int):Option (Int⊕Int⊕Unit):=bif (decide (a<(ln d)))then ((gx (Sl.es d) a).bind λb=>(F202 b).bind λc=>bif c then (some (.inr (.inl a)))else (some (.inl (wi (a+1)))))else (some (.inr (.inr ())))
def F275_1 (b:Sl Int):Option Int:=(Xg (λ(c:Int)=>LF275_1_8 b c) 0).bind λa=>match a with|(.inl v3)=>some v3|(.inr ())=>JF275_1_1
def F203_1 (a:Sl Int):Option Bool:=(F275_1 a).bind λb=>some (decide (b>=0))
def F124 (a:ByteArray):Option Bool:=bif (decide ((lns a)<=256))then ((gby a).bind λb=>(F203_1 b).bind λc=>some (!c))else (some false)
def Yf (d:Bool) (a:G58) (f:G27) (e:Int) (b:List G159):Option (List G159):=bif d then ((gapp 24 b (Sl.es (Sl.full [(⟨e,(⟨a.fM,a.fU⟩:G58)⟩:G159)]))).bind λc=>some c)else (some b)
def F125 (a:Int) (b:Int) (c:Int):Option Bool:=bif (decide (a>=b))then (some (decide (a<=c)))else (some false)
def JF126_2 (a:Bool):Option Int:=bif a then (some 2)else (some 0)
def F126 (a:G65):Option Int:=bif (decide (a.fak<(-77)))then (JF126_2 true)else (bif (decide (a.fak>77))then (JF126_2 true)else (bif (decide (a.fac<(-140)))then (JF126_2 true)else (JF126_2 (decide (a.fac>140)))))
def Vm (e:Bool) (b:Int) (c:Int) (g:G27) (f:Int) (a:List G159):Option (List G159):=bif e then ((gapp 24 a (Sl.es (Sl.full [(⟨f,(⟨b,c⟩:G58)⟩:G159)]))).bind λd=>some d)else (some a)
def JF60_1_7 (a:G27) (c:Int) (b:List G159):Option (List G159):=(F124 a.fay).bind λk=>bif (!k)then ((Vm true 0 0 a c b).bind λf=>some f)else ((F125 (ln a.fi) 1 32).bind λh=>bif (!h)then ((Vm true 0 0 a c b).bind λd=>some d)else ((F125 (ln a.fc) 1 1024).bind λe=>bif (!e)then ((Vm true 0 0 a c b).bind λi=>some i)else (bif (decide ((ln a.fp)>4096))then ((Vm true 0 0 a c b).bind λj=>some j)else ((Vm (decide ((ln a.fG)>100)) 0 0 a c b).bind λg=>some g))))
def JF60_1_68 (b:Int) (a:List G159):Option ((Int×(List G159))⊕List G159):=some (.inl ((wi (b+1)),a))
def JF60_1_74 (b:G75) (g:G27) (f:Int) (c:List G159) (e:Int) (d:Bool):Option ((Int×(List G159))⊕List G159):=(Yf d b.fID g f c).bind λa=>JF60_1_68 e a
def JF60_1_92 (b:Int) (a:Bool):Option ((Bool×Int)⊕Bool):=some (.inl (a,wi (b+1)))
def LF60_1_104 (d:G95) (c:Bool) (a:Int):Option ((Bool×Int)⊕Bool):=bif (decide (a<(ln d.fh)))then ((gx (Sl.es d.fh) a).bind λb=>bif c then (some (.inl (true,wi (a+1))))else (bif (decide ((ln b.fg)>128))then (some (.inl (true,wi (a+1))))else (some (.inl ((decide ((ln b.fY)>16)),wi (a+1))))))else (some (.inr c))
def JF60_1_96 (f:G95) (e:Int) (c:Bool):Option ((Bool×Int)⊕Bool):=(Xg (λ((d,b):Bool×Int)=>LF60_1_104 f d b) (c,0)).bind λa=>match a with|v99=>JF60_1_92 e v99
def LF60_1_89 (d:G75) (c:Bool) (a:Int):Option ((Bool×Int)⊕Bool):=bif (decide (a<(ln d.ff)))then ((gx (Sl.es d.ff) a).bind λb=>bif c then (JF60_1_96 b a true)else (bif (decide ((ln b.fR)>64))then (JF60_1_96 b a true)else (JF60_1_96 b a (decide ((ln b.fh)>2)))))else (some (.inr c))
def JF60_1_72 (a:G75) (i:G27) (h:Int) (e:List G159) (g:Int) (b:Bool):Option ((Int×(List G159))⊕List G159):=(Xg (λ((c,f):Bool×Int)=>LF60_1_89 a c f) (b,0)).bind λd=>match d with|v84=>JF60_1_74 a i h e g v84
def LF60_1_65 (e:G27) (f:Int) (b:Int) (c:List G159):Option ((Int×(List G159))⊕List G159):=bif (decide (b<(ln e.fc)))then ((gx (Sl.es e.fc) b).bind λa=>(F124 a.fax).bind λd=>bif (!d)then (JF60_1_72 a e f c b true)else (JF60_1_72 a e f c b (decide ((ln a.fm)>64))))else (some (.inr c))
def JF60_1_5 (e:G27) (d:Int) (f:List G159):Option (List G159):=(Xg (λ((c,b):Int×(List G159))=>LF60_1_65 e d c b) (0,f)).bind λa=>match a with|v60=>JF60_1_7 e d v60
def LF60_1_122 (h:G27) (k:Int) (b:Int) (c:List G159):Option ((Int×(List G159))⊕List G159):=bif (decide (b<(ln h.fi)))then ((gx (Sl.es h.fi) b).bind λa=>(F124 a.faz).bind λe=>bif (!e)then ((Yf true a.fID h k c).bind λg=>some (.inl ((wi (b+1)),g)))else ((F125 (ln a.fx) 1 4).bind λf=>bif (!f)then ((Yf true a.fID h k c).bind λi=>some (.inl ((wi (b+1)),i)))else ((F126 a.faJ).bind λd=>(Yf (d !=0) a.fID h k c).bind λj=>some (.inl ((wi (b+1)),j)))))else (some (.inr c))
def F60_1 (e:G27) (d:Int) (f:List G159):Option (List G159):=(Xg (λ((b,c):Int×(List G159))=>LF60_1_122 e d b c) (0,f)).bind λa=>match a with|v117=>JF60_1_5 e d v117
def Qa (j:Int) (i:Int) (g:Int) (h:Int) (k:Int) (e:Int) (d:Int) (b:G58) (f:G27) (c:List G58):Option (List G58):=(gapp 16 c (Sl.es (Sl.full [b]))).bind λa=>some a
def LF276_1_14 (d:G27) (a:Int) (e:List G58):Option ((Int×(List G58))⊕List G58):=bif (decide (a<(ln d.fp)))then ((gx (Sl.es d.fp) a).bind λc=>(Qa 5 0 0 0 0 0 a c.fID d e).bind λb=>some (.inl ((wi (a+1)),b)))else (some (.inr e))
def JF276_1_6 (e:G27) (c:List G58):Option (List G58):=(Xg (λ((b,d):Int×(List G58))=>LF276_1_14 e b d) (0,c)).bind λa=>match a with|v9=>some v9
def JF276_1_40 (a:Int) (b:List G58):Option ((Int×(List G58))⊕List G58):=some (.inl ((wi (a+1)),b))
def JF276_1_67 (b:Int) (a:List G58):Option ((Int×(List G58))⊕List G58):=some (.inl ((wi (b+1)),a))
def JF276_1_82 (b:Int) (a:List G58):Option ((Int×(List G58))⊕List G58):=some (.inl ((wi (b+1)),a))
def LF276_1_96 (j:G100) (l:G27) (b:Int) (g:Int) (d:Int) (a:Int) (c:List G58):Option ((Int×(List G58))⊕List G58):=bif (decide (a<(ln j.fg)))then ((gx (Sl.es l.fc) b).bind λk=>(gx (Sl.es k.ff) g).bind λh=>(gx (Sl.es h.fh) d).bind λf=>(gx (Sl.es f.fg) a).bind λe=>(Qa 4 0 g b d a 0 e.fID l c).bind λi=>some (.inl ((wi (a+1)),i)))else (some (.inr c))
def LF276_1_79 (f:G95) (l:G27) (b:Int) (d:Int) (a:Int) (c:List G58):Option ((Int×(List G58))⊕List G58):=bif (decide (a<(ln f.fh)))then ((gx (Sl.es l.fc) b).bind λj=>(gx (Sl.es j.ff) d).bind λi=>(gx (Sl.es i.fh) a).bind λe=>(Xg (λ((k,g):Int×(List G58))=>LF276_1_96 e l b d a k g) (0,c)).bind λh=>match h with|v91=>JF276_1_82 a v91)else (some (.inr c))
def LF276_1_64 (i:G75) (j:G27) (b:Int) (a:Int) (c:List G58):Option ((Int×(List G58))⊕List G58):=bif (decide (a<(ln i.ff)))then ((gx (Sl.es j.fc) b).bind λh=>(gx (Sl.es h.ff) a).bind λd=>(Xg (λ((f,e):Int×(List G58))=>LF276_1_79 d j b a f e) (0,c)).bind λg=>match g with|v74=>JF276_1_67 a v74)else (some (.inr c))
def LF276_1_37 (c:G27) (a:Int) (b:List G58):Option ((Int×(List G58))⊕List G58):=bif (decide (a<(ln c.fc)))then ((gx (Sl.es c.fc) a).bind λd=>(Qa 3 0 0 a 0 0 0 d.fID c b).bind λh=>(gx (Sl.es c.fc) a).bind λg=>(Xg (λ((f,i):Int×(List G58))=>LF276_1_64 g c a f i) (0,h)).bind λe=>match e with|v59=>JF276_1_40 a v59)else (some (.inr b))
def JF276_1_4 (d:G27) (e:List G58):Option (List G58):=(Xg (λ((a,b):Int×(List G58))=>LF276_1_37 d a b) (0,e)).bind λc=>match c with|v32=>JF276_1_6 d v32
def JF276_1_130 (c:Int) (a:Int) (b:List G58):Option ((Int×Int×(List G58))⊕List G58):=some (.inl (a,wi (c+1),b))
def LF276_1_156 (h:G68) (i:G27) (f:Int) (a:Int) (b:Int) (c:List G58):Option ((Int×Int×(List G58))⊕(Int×(List G58))):=bif (decide (b<(ln h.fx)))then ((gx (Sl.es i.fi) f).bind λe=>(gx (Sl.es e.fx) b).bind λd=>(Qa 2 0 a 0 0 0 0 d.fID i c).bind λg=>some (.inl ((wi (a+1)),wi (b+1),g)))else (some (.inr (a,c)))
def LF276_1_126 (l:G27) (e:Int) (a:Int) (b:List G58):Option ((Int×Int×(List G58))⊕List G58):=bif (decide (a<(ln l.fi)))then ((gx (Sl.es l.fi) a).bind λk=>(Qa 1 a 0 0 0 0 0 k.fID l b).bind λc=>(gx (Sl.es l.fi) a).bind λd=>(Xg (λ((f,h,j):Int×Int×(List G58))=>LF276_1_156 d l a f h j) (e,0,c)).bind λ(i,g)=>JF276_1_130 a i g)else (some (.inr b))
def F276_1 (e:G27) (f:List G58):Option (List G58):=(Xg (λ((b,a,c):Int×Int×(List G58))=>LF276_1_126 e b a c) (0,0,f)).bind λd=>match d with|v121=>JF276_1_4 e v121
def JF127_2 (a:List G58):Option (Sl G58):=some (mkSl a)
def F127 (a:G27):Option (Sl G58):=(F276_1 a ([]:List G58)).bind λb=>JF127_2 b
def F128 (a:G58):Option Bool:=(F125 a.fM 0 99).bind λb=>bif b then ((F125 a.fU 1 1073741824).bind λc=>some c)else (some false)
def JF129_2:Option Int:=some 0
def LF129_9 (c:G27) (d:Int) (b:Int):Option (Int⊕Int⊕Unit):=bif (decide (b<(ln c.fG)))then ((gx (Sl.es c.fG) b).bind λa=>bif (a.fM==d)then (some (.inr (.inl a.fU)))else (some (.inl (wi (b+1)))))else (some (.inr (.inr ())))
def F129 (c:G27) (b:Int):Option Int:=(Xg (λ(d:Int)=>LF129_9 c b d) 0).bind λa=>match a with|(.inl v4)=>some v4|(.inr ())=>JF129_2
def JF61_1_7 (d:G27) (b:Int) (e:List G159) (c:Bool):Option (List G159):=(Vm c 0 0 d b e).bind λa=>some a
def LF61_1_23 (f:G27) (b:Bool) (a:Int):Option ((Bool×Int)⊕Bool):=bif (decide (a<(ln f.fG)))then ((gx (Sl.es f.fG) a).bind λc=>bif b then (some (.inl (true,wi (a+1))))else ((F128 c).bind λd=>bif (!d)then (some (.inl (true,wi (a+1))))else (bif (decide (a>0))then ((gx (Sl.es f.fG) (wi (a-(1)))).bind λe=>some (.inl ((decide (c.fM<=e.fM)),wi (a+1))))else (some (.inl (false,wi (a+1)))))))else (some (.inr b))
def JF61_1_5 (d:G27) (e:Int) (f:List G159):Option (List G159):=(Xg (λ((a,b):Bool×Int)=>LF61_1_23 d a b) (false,0)).bind λc=>match c with|v18=>JF61_1_7 d e f v18
def LF61_1_44 (e:Sl G58) (f:G27) (j:Int) (b:Int) (c:List G159) (d:(GM G58 Bool)):Option ((Int×(List G159)×(GM G58 Bool))⊕List G159):=bif (decide (b<(ln e)))then ((gx (Sl.es e) b).bind λa=>(F128 a).bind λl=>bif (!l)then ((Yf true a f j c).bind λh=>some (.inl ((wi (b+1)),h,gmPut keq58 d a true)))else ((gmGet keq58 d a false).bind λm=>bif m then ((Yf true a f j c).bind λg=>some (.inl ((wi (b+1)),g,gmPut keq58 d a true)))else ((F129 f a.fM).bind λk=>(Yf (decide (a.fU>k)) a f j c).bind λi=>some (.inl ((wi (b+1)),i,gmPut keq58 d a true)))))else (some (.inr c))
def F61_1 (e:G27) (g:Int) (h:List G159):Option (List G159):=(F127 e).bind λd=>(Xg (λ((f,a,b):Int×(List G159)×(GM G58 Bool))=>LF61_1_44 d e g f a b) (0,h,⟨[],[],0⟩)).bind λc=>match c with|v39=>JF61_1_5 e g v39
def JF130_2 (a:Int):Option Int:=some a
def LF130_10 (c:G27) (d:Int) (a:Int):Option ((Int×Int)⊕Int):=bif (decide (a<(ln c.fi)))then ((gx (Sl.es c.fi) a).bind λb=>some (.inl ((wi (d+(ln b.fx))),wi (a+1))))else (some (.inr d))
def F130 (b:G27):Option Int:=(Xg (λ((a,c):Int×Int)=>LF130_10 b a c) (0,0)).bind λd=>match d with|v5=>JF130_2 v5
def JF132_1_4 (a:Bool):Option Bool:=some a
def JF132_1_15 (b:Int) (a:Bool):Option ((Bool×Int)⊕Bool):=some (.inl (a,wi (b+1)))
def LF132_1_27 (b:G95) (d:Bool) (a:Int):Option ((Bool×Int)⊕Bool):=bif (decide (a<(ln b.fh)))then ((gx (Sl.es b.fh) a).bind λc=>bif d then (some (.inl (true,wi (a+1))))else (bif ((ln c.fg)==0)then (some (.inl ((decide ((ln c.fY)>0)),wi (a+1))))else (some (.inl (false,wi (a+1))))))else (some (.inr d))
def Vl (a:G95) (f:Int) (e:Bool):Option ((Bool×Int)⊕Bool):=(Xg (λ((b,d):Bool×Int)=>LF132_1_27 a b d) (e,0)).bind λc=>match c with|v22=>JF132_1_15 f v22
def LF132_1_12 (e:G75) (f:Bool) (b:Int):Option ((Bool×Int)⊕Bool):=bif (decide (b<(ln e.ff)))then ((gx (Sl.es e.ff) b).bind λa=>bif f then (Vl a b true)else (bif ((ln a.fh)==0)then (Vl a b true)else ((gx (Sl.es a.fh) 0).bind λc=>bif ((ln c.fg)==0)then (Vl a b true)else ((gx (Sl.es a.fh) (wi ((ln a.fh)-(1)))).bind λd=>Vl a b ((ln d.fg)==0)))))else (some (.inr f))
def F132_1 (f:Int) (a:G75) (d:Int):Option Bool:=(Xg (λ((c,b):Bool×Int)=>LF132_1_12 a c b) (((ln a.ff) !=d),0)).bind λe=>match e with|v7=>JF132_1_4 v7
def LF131_1_12 (e:G27) (h:Int) (g:Int) (b:Int) (f:List G159):Option ((Int×(List G159))⊕List G159):=bif (decide (b<(ln e.fc)))then ((gx (Sl.es e.fc) b).bind λa=>(F132_1 b a h).bind λd=>(Yf d a.fID e g f).bind λc=>some (.inl ((wi (b+1)),c)))else (some (.inr f))
def F131_1 (g:G27) (a:Int) (d:List G159) (f:Int):Option (List G159):=(Xg (λ((c,b):Int×(List G159))=>LF131_1_12 g f a c b) (0,d)).bind λe=>match e with|v7=>some v7
def F62_1 (b:G27) (c:Int) (d:List G159):Option (List G159):=(F130 b).bind λe=>(F131_1 b c d e).bind λa=>some a
def F277:Option G385:=some (⟨(⟨ByteArray.mk #[116,114,101,98,108,101],71,-2,0,34,-1,-3⟩:G326),(⟨ByteArray.mk #[98,97,115,115],70,2,0,22,-3,-5⟩:G326),(⟨ByteArray.mk #[97,108,116,111],67,0,0,28,-2,-4⟩:G326),(⟨ByteArray.mk #[116,101,110,111,114],67,2,0,26,-2,-2⟩:G326),(⟨ByteArray.mk #[115,111,112,114,97,110,111],67,-4,0,32,-2,-3⟩:G326),(⟨ByteArray.mk #[109,101,122,122,111,115,111,112,114,97,110,111],67,-2,0,30,-2,-3⟩:G326),(⟨ByteArray.mk #[98,97,114,105,116,111,110,101],70,0,0,24,-2,-3⟩:G326),(⟨ByteArray.mk #[116,114,101,98,108,101,56],71,-2,-1,27,-1,-3⟩:G326),(⟨ByteArray.mk #[98,97,115,115,56],70,2,-1,15,-3,-5⟩:G326)⟩:G385)
def JF205_2 (d:Int) (c:Bool):Option (G326×Int):=bif c then (some ((⟨ByteArray.mk #[],0,0,0,0,0,0⟩:G326),11))else ((F277).bind λa=>(gx [(⟨a.a0.fK,a.a0.fae,a.a0.faf,a.a0.fag,a.a0.fah,a.a0.fai,a.a0.faj⟩:G326),(⟨a.a1.fK,a.a1.fae,a.a1.faf,a.a1.fag,a.a1.fah,a.a1.fai,a.a1.faj⟩:G326),(⟨a.a2.fK,a.a2.fae,a.a2.faf,a.a2.fag,a.a2.fah,a.a2.fai,a.a2.faj⟩:G326),(⟨a.a3.fK,a.a3.fae,a.a3.faf,a.a3.fag,a.a3.fah,a.a3.fai,a.a3.faj⟩:G326),(⟨a.a4.fK,a.a4.fae,a.a4.faf,a.a4.fag,a.a4.fah,a.a4.fai,a.a4.faj⟩:G326),(⟨a.a5.fK,a.a5.fae,a.a5.faf,a.a5.fag,a.a5.fah,a.a5.fai,a.a5.faj⟩:G326),(⟨a.a6.fK,a.a6.fae,a.a6.faf,a.a6.fag,a.a6.fah,a.a6.fai,a.a6.faj⟩:G326),(⟨a.a7.fK,a.a7.fae,a.a7.faf,a.a7.fag,a.a7.fah,a.a7.fai,a.a7.faj⟩:G326),(⟨a.a8.fK,a.a8.fae,a.a8.faf,a.a8.fag,a.a8.fah,a.a8.fai,a.a8.faj⟩:G326)] (wi (d-(1)))).bind λb=>some ((⟨b.fK,b.fae,b.faf,b.fag,b.fah,b.fai,b.faj⟩:G326),0))
def F205 (a:Int):Option (G326×Int):=bif (decide (a<1))then (JF205_2 a true)else (JF205_2 a (decide (a>9)))
def F133 (b:Int):Option Int:=(F205 b).bind λa=>some a.2
def JF172_4 (b:G71) (c:Int) (a:Int):Option Bool:=bif (c==b.fI)then (some (decide (a>=2)))else (some false)
def JF172_19 (c:Int) (b:Int) (a:Int):Option ((Int×Int×Int)⊕(Unit⊕(Int×Int))):=some (.inl (b,a,wi (c+1)))
def JF172_23 (a:Int) (e:Int) (c:Int) (d:Int) (b:Bool):Option ((Int×Int×Int)⊕(Unit⊕(Int×Int))):=bif b then (some (.inr (.inl ())))else (bif (decide (a>0))then (JF172_19 e (wi (c+a)) (wi (d+1)))else (JF172_19 e c d))
def LF172_15 (d:G71) (e:Int) (c:Int) (b:Int):Option ((Int×Int×Int)⊕(Unit⊕(Int×Int))):=bif (decide (b<6))then ((gx [d.fV.a0,d.fV.a1,d.fV.a2,d.fV.a3,d.fV.a4,d.fV.a5] b).bind λa=>bif (decide (a<0))then (JF172_23 a b e c true)else (bif (decide (a>64))then (JF172_23 a b e c true)else (bif (decide (a>0))then (JF172_23 a b e c (b !=c))else (JF172_23 a b e c false))))else (some (.inr (.inr (e,c))))
def F172 (a:G71):Option Bool:=bif ((a.fV.a0==0)&&((a.fV.a1==0)&&((a.fV.a2==0)&&((a.fV.a3==0)&&((a.fV.a4==0)&&((a.fV.a5==0)&&true))))))then (some true)else ((Xg (λ((c,d,e):Int×Int×Int)=>LF172_15 a c d e) (0,0,0)).bind λb=>match b with|(.inl ())=>some false|(.inr (v9,v10))=>JF172_4 a v9 v10)
def JF83_5 (a:G71) (c:Bool):Option Int:=bif c then (some 17)else ((F172 a).bind λb=>bif (!b)then (some 19)else (some 0))
def JF83_2 (a:G71) (b:Bool):Option Int:=bif b then (some 2)else (bif (decide (a.fJ<1))then (JF83_5 a true)else (bif (decide (a.fJ>64))then (JF83_5 a true)else (JF83_5 a ((iand .i64 a.fJ (wi (a.fJ-(1)))) !=0))))
def F83 (a:G71):Option Int:=bif (decide (a.fI<1))then (JF83_2 a true)else (JF83_2 a (decide (a.fI>64)))
def F305 (b:G71):Option Int:=(gq .i64 1935360 b.fJ).bind λa=>some a
def F256 (a:G71):Option Int:=(F305 a).bind λb=>some (wi (a.fI*b))
def F187 (b:G71):Option (Int×Int):=(F83 b).bind λa=>bif (a !=0)then (some (0,a))else ((F256 b).bind λc=>some (c,0))
def JF99_4 (a:Int):Option (Int×Int):=bif ((Int.tmod a 7560) !=0)then (some (0,16))else (bif (decide (a>15482880))then (some (0,5))else (some (a,0)))
def F99 (a:G75):Option (Int×Int):=(F187 a.f6).bind λb=>bif (b.2 !=0)then (some (0,b.2))else (bif (decide (a.faF<0))then (some (0,2))else (bif (decide (a.faF>0))then (JF99_4 a.faF)else (JF99_4 b.1)))
def JF134_5 (a:Int×Int) (b:Bool):Option Bool:=bif b then (some (a.2==0))else (some false)
def JF134_17 (b:Int) (a:Bool):Option ((Bool×Int)⊕Bool):=some (.inl (a,wi (b+1)))
def LF134_27 (c:G95) (h:Int×Int) (d:Bool) (a:Int):Option ((Bool×Int)⊕Bool):=bif (decide (a<(ln c.fR)))then ((gx (Sl.es c.fR) a).bind λb=>bif d then (some (.inl (true,wi (a+1))))else ((F133 b.faI).bind λg=>bif (g !=0)then (some (.inl (true,wi (a+1))))else ((F125 b.fAt 0 (wi (h.1-(1)))).bind λf=>bif (!f)then (some (.inl (true,wi (a+1))))else (bif (decide (a>0))then ((gx (Sl.es c.fR) (wi (a-(1)))).bind λe=>some (.inl ((decide (b.fAt<=e.fAt)),wi (a+1))))else (some (.inl (false,wi (a+1))))))))else (some (.inr d))
def LF134_14 (g:G75) (h:Int×Int) (f:Bool) (a:Int):Option ((Bool×Int)⊕Bool):=bif (decide (a<(ln g.ff)))then ((gx (Sl.es g.ff) a).bind λc=>(Xg (λ((d,e):Bool×Int)=>LF134_27 c h d e) (f,0)).bind λb=>match b with|v22=>JF134_17 a v22)else (some (.inr f))
def F134 (f:Int) (b:G75):Option Bool:=(F99 b).bind λc=>(Xg (λ((d,e):Bool×Int)=>LF134_14 b c d e) (false,0)).bind λa=>match a with|v9=>JF134_5 c v9
def LF131_2_11 (d:G27) (g:Int) (b:Int) (f:List G159):Option ((Int×(List G159))⊕List G159):=bif (decide (b<(ln d.fc)))then ((gx (Sl.es d.fc) b).bind λa=>(F134 b a).bind λc=>(Yf c a.fID d g f).bind λe=>some (.inl ((wi (b+1)),e)))else (some (.inr f))
def F131_2 (e:G27) (a:Int) (c:List G159):Option (List G159):=(Xg (λ((f,b):Int×(List G159))=>LF131_2_11 e a f b) (0,c)).bind λd=>match d with|v6=>some v6
def JF63_1_5 (c:G27) (a:Int) (d:List G159):Option (List G159):=(F131_2 c a d).bind λb=>some b
def JF63_1_21 (a:Int) (b:List G159):Option ((Int×(List G159))⊕List G159):=some (.inl ((wi (a+1)),b))
def LF63_1_31 (b:G68) (h:G27) (g:Int) (a:Int) (c:List G159):Option ((Int×(List G159))⊕List G159):=bif (decide (a<(ln b.fx)))then ((gx (Sl.es b.fx) a).bind λd=>(F133 d.faI).bind λe=>(Yf (e !=0) d.fID h g c).bind λf=>some (.inl ((wi (a+1)),f)))else (some (.inr c))
def LF63_1_18 (g:G27) (h:Int) (a:Int) (b:List G159):Option ((Int×(List G159))⊕List G159):=bif (decide (a<(ln g.fi)))then ((gx (Sl.es g.fi) a).bind λe=>(Xg (λ((c,f):Int×(List G159))=>LF63_1_31 e g h c f) (0,b)).bind λd=>match d with|v26=>JF63_1_21 a v26)else (some (.inr b))
def F63_1 (e:G27) (d:Int) (f:List G159):Option (List G159):=(Xg (λ((a,c):Int×(List G159))=>LF63_1_18 e d a c) (0,f)).bind λb=>match b with|v13=>JF63_1_5 e d v13
def JF78_2 (a:Bool):Option Int:=bif a then (some 2)else (some 0)
def F78 (a:Int):Option Int:=bif (decide (a<(-7)))then (JF78_2 true)else (JF78_2 (decide (a>7)))
def JF136_11 (a:Int):Option (Int×Int):=some (a,0)
def LF136_18 (a:Int):Option (Int⊕Int):=bif (decide (a<(-7)))then (some (.inl (wi (a+12))))else (some (.inr a))
def JF136_9 (c:Int):Option (Int×Int):=(Xg (λ(b:Int)=>LF136_18 b) c).bind λa=>match a with|v13=>JF136_11 v13
def LF136_26 (a:Int):Option (Int⊕Int):=bif (decide (a>7))then (some (.inl (wi (a-(12)))))else (some (.inr a))
def JF136_6 (e:Int) (c:G65) (d:Bool):Option (Int×Int):=bif d then (some (0,2))else ((Xg (λ(b:Int)=>LF136_26 b) (wi (e+(wi ((wi (7*c.fac))-(wi (12*c.fak))))))).bind λa=>match a with|v21=>JF136_9 v21)
def F136 (b:Int) (a:G65):Option (Int×Int):=(F78 b).bind λc=>bif (c !=0)then (some (0,c))else (bif (decide (a.fak<(-77)))then (JF136_6 b a true)else (bif (decide (a.fak>77))then (JF136_6 b a true)else (bif (decide (a.fac<(-140)))then (JF136_6 b a true)else (JF136_6 b a (decide (a.fac>140))))))
def JF135_1_10 (a:Bool):Option Bool:=some a
def JF135_1_21 (b:Int) (a:Bool):Option ((Bool×Int)⊕Bool):=some (.inl (a,wi (b+1)))
def Wp (f:G75) (e:G68) (a:Int) (c:Bool) (d:Bool):Option ((Bool×Int)⊕Bool):=bif d then ((F136 f.faN e.faJ).bind λb=>JF135_1_21 a (b.2 !=0))else (JF135_1_21 a c)
def LF135_1_18 (d:G27) (e:G75) (a:Bool) (b:Int):Option ((Bool×Int)⊕Bool):=bif (decide (b<(ln d.fi)))then ((gx (Sl.es d.fi) b).bind λc=>bif d.faH then (Wp e c b a (!a))else (Wp e c b a false))else (some (.inr a))
def Uo (f:G27) (d:G75) (e:Bool):Option Bool:=(Xg (λ((a,c):Bool×Int)=>LF135_1_18 f d a c) (e,0)).bind λb=>match b with|v13=>JF135_1_10 v13
def F135_1 (f:Int) (a:G75) (c:G27) (e:Int) (g:List G159):Option Bool:=(F99 a).bind λd=>bif (d.2 !=0)then (Uo c a true)else ((F125 a.faN (-7) 7).bind λb=>Uo c a (!b))
def Qc (b:G27) (g:Int) (c:Int) (e:List G159):Option ((Int×(List G159))⊕List G159):=bif (decide (c<(ln b.fc)))then ((gx (Sl.es b.fc) c).bind λa=>(F135_1 c a b g e).bind λf=>(Yf f a.fID b g e).bind λd=>some (.inl ((wi (c+1)),d)))else (some (.inr e))
def F131_3 (e:G27) (a:Int) (c:List G159):Option (List G159):=(Xg (λ((f,b):Int×(List G159))=>Qc e a f b) (0,c)).bind λd=>match d with|v6=>some v6
def F64_1 (b:G27) (a:Int) (d:List G159):Option (List G159):=(F131_3 b a d).bind λc=>some c
def JF215_3 (a:Bool):Option Int:=bif a then (some 2)else (some 0)
def F215 (a:Int) (b:Int):Option Int:=bif (decide (a<0))then (JF215_3 true)else (JF215_3 (decide (a>b)))
def JF214_1:Option Int:=some 0
def LF214_8 (c:Sl Int) (b:Int):Option (Int⊕Int⊕Unit):=bif (decide (b<(ln c)))then ((gx (Sl.es c) b).bind λa=>bif (a !=0)then (some (.inr (.inl a)))else (some (.inl (wi (b+1)))))else (some (.inr (.inr ())))
def F214 (b:Sl Int):Option Int:=(Xg (λ(c:Int)=>LF214_8 b c) 0).bind λa=>match a with|(.inl v3)=>some v3|(.inr ())=>JF214_1
def F216 (a:Int):Option Bool:=bif (decide (a>=1))then (some (decide (a<=4)))else (some false)
def F284 (a:Int):Option Int:=bif (decide (a<0))then (some 0)else (some (iand .i64 a 16))
def JF218_6 (a:G147) (c:Int) (b:Int):Option G147:=bif (a.fq !=4)then ((F284 a.fZ).bind λd=>some (⟨(⟨a.fID.fM,a.fID.fU⟩:G58),a.fq,(⟨c,b⟩:G142),.nil,.nil,d,0,a.f4,.nil,0,0⟩:G147))else (some (⟨(⟨a.fID.fM,a.fID.fU⟩:G58),a.fq,(⟨c,b⟩:G142),.nil,.nil,0,0,a.f4,.nil,0,0⟩:G147))
def JF218_2 (a:G147) (b:Bool):Option G147:=bif b then (some (⟨(⟨a.fID.fM,a.fID.fU⟩:G58),a.fq,(⟨a.fw.fA,a.fw.fF⟩:G142),a.fD,a.fS,a.fZ,a.fab,a.f4,a.fv,a.fao,a.fau⟩:G147))else (bif (a.fq !=3)then (JF218_6 a a.fw.fA a.fw.fF)else (JF218_6 a 0 0))
def F218 (a:G147):Option G147:=bif (a.fq==1)then (JF218_2 a true)else ((F216 a.fq).bind λb=>JF218_2 a (!b))
def JF281_3:Option Bool:=some true
def LF281_9 (d:Sl G182) (e:Sl G182) (c:Int):Option (Int⊕Unit⊕Unit):=bif (decide (c<(ln d)))then ((gx (Sl.es d) c).bind λa=>(gx (Sl.es e) c).bind λb=>bif (!((a.fO.fW==b.fO.fW)&&((a.fO.fal==b.fO.fal)&&((a.fO.fas==b.fO.fas)&&((a.faK==b.faK)&&((a.faL==b.faL)&&true))))))then (some (.inr (.inl ())))else (some (.inl (wi (c+1)))))else (some (.inr (.inr ())))
def F281 (b:Sl G182) (a:Sl G182):Option Bool:=bif ((ln b) !=(ln a))then (some false)else ((Xg (λ(d:Int)=>LF281_9 b a d) 0).bind λc=>match c with|(.inl ())=>some false|(.inr ())=>JF281_3)
def JF282_3:Option Bool:=some true
def LF282_9 (d:Sl G245) (e:Sl G245) (c:Int):Option (Int⊕Unit⊕Unit):=bif (decide (c<(ln d)))then ((gx (Sl.es d) c).bind λa=>(gx (Sl.es e) c).bind λb=>bif (!((a.fO.fW==b.fO.fW)&&((a.fO.fal==b.fO.fal)&&((a.fO.fas==b.fO.fas)&&((a.fA==b.fA)&&((a.faM==b.faM)&&true))))))then (some (.inr (.inl ())))else (some (.inl (wi (c+1)))))else (some (.inr (.inr ())))
def F282 (b:Sl G245) (a:Sl G245):Option Bool:=bif ((ln b) !=(ln a))then (some false)else ((Xg (λ(d:Int)=>LF282_9 b a d) 0).bind λc=>match c with|(.inl ())=>some false|(.inr ())=>JF282_3)
def JF283_3:Option Bool:=some true
def LF283_9 (d:Sl G171) (e:Sl G171) (c:Int):Option (Int⊕Unit⊕Unit):=bif (decide (c<(ln d)))then ((gx (Sl.es d) c).bind λa=>(gx (Sl.es e) c).bind λb=>bif (!((a.fP==b.fP)&&((a.faq==b.faq)&&true)))then (some (.inr (.inl ())))else (some (.inl (wi (c+1)))))else (some (.inr (.inr ())))
def F283 (b:Sl G171) (a:Sl G171):Option Bool:=bif ((ln b) !=(ln a))then (some false)else ((Xg (λ(d:Int)=>LF283_9 b a d) 0).bind λc=>match c with|(.inl ())=>some false|(.inr ())=>JF283_3)
def Wk (a:Bool):Option Bool:=some a
def F217 (b:G147) (a:G147):Option Bool:=bif (b.fq==a.fq)then (bif ((b.fw.fA==a.fw.fA)&&((b.fw.fF==a.fw.fF)&&true))then (bif (b.fZ==a.fZ)then (bif (b.fab==a.fab)then (bif (b.f4==a.f4)then (bif (b.fao==a.fao)then (bif (b.fau==a.fau)then ((F281 b.fD a.fD).bind λc=>bif c then ((F282 b.fS a.fS).bind λe=>bif e then ((F283 b.fv a.fv).bind λd=>Wk d)else (Wk false))else (Wk false))else (Wk false))else (Wk false))else (Wk false))else (Wk false))else (Wk false))else (Wk false))else (Wk false)
def Vs (a:Bool):Option Int:=bif a then (some 17)else (some 0)
def F219 (a:G142):Option Int:=bif (decide (a.fA<(-1)))then (Vs true)else (bif (decide (a.fA>8))then (Vs true)else (bif (decide (a.fF<0))then (Vs true)else (Vs (decide (a.fF>3)))))
def F243:Option G273:=some (⟨0,2,4,5,7,9,11⟩:G273)
def F169 (b:G80):Option Int:=(F243).bind λa=>(gx [a.a0,a.a1,a.a2,a.a3,a.a4,a.a5,a.a6] b.fW).bind λc=>some (wi ((wi ((wi (12*(wi (b.fas+1))))+c))+b.fal))
def JF168_7 (a:Bool):Option Int:=bif a then (some 18)else (some 0)
def Vt (c:G80) (b:Bool):Option Int:=bif b then (some 18)else ((F169 c).bind λa=>bif (decide (a<0))then (JF168_7 true)else (JF168_7 (decide (a>127))))
def F168 (a:G80):Option Int:=bif (decide (a.fW<0))then (Vt a true)else (bif (decide (a.fW>6))then (Vt a true)else (bif (decide (a.fal<(-2)))then (Vt a true)else (bif (decide (a.fal>2))then (Vt a true)else (bif (decide (a.fas<(-1)))then (Vt a true)else (Vt a (decide (a.fas>9)))))))
def F77 (b:G80):Option (Int×Int):=(F168 b).bind λa=>bif (a !=0)then (some (0,a))else ((F169 b).bind λc=>some (c,0))
def JF260_4 (a:Int×Int) (b:Bool):Option (Int×Int):=bif b then (some (0,18))else (some (a.1,0))
def F260 (b:G80):Option (Int×Int):=(F77 b).bind λa=>bif (a.2 !=0)then (JF260_4 a true)else (bif (decide (a.1<0))then (JF260_4 a true)else (JF260_4 a (decide (a.1>127))))
def F285 (a:G182):Option Int:=(F260 a.fO).bind λb=>(F215 a.faL 2).bind λd=>(F214 (Sl.full [b.2,d])).bind λc=>some c
def JF220_3:Option Int:=some 0
def LF220_11 (e:Sl G182) (f:Int) (d:Int):Option ((Int×Int)⊕Int⊕Unit):=bif (decide (d<(ln e)))then ((gx (Sl.es e) d).bind λb=>(F285 b).bind λa=>bif (a !=0)then (some (.inr (.inl a)))else ((F260 b.fO).bind λc=>bif (decide (c.1<=f))then (some (.inr (.inl 25)))else (some (.inl (c.1,wi (d+1))))))else (some (.inr (.inr ())))
def F220 (a:Sl G182):Option Int:=bif ((ln a)==0)then (some 4)else (bif (decide ((ln a)>10))then (some 9)else ((Xg (λ((d,c):Int×Int)=>LF220_11 a d c) ((-1),0)).bind λb=>match b with|(.inl v6)=>some v6|(.inr ())=>JF220_3))
def JF193_2:Option Int:=some 0
def JF193_17 (b:Int) (a:Bool):Option (Int⊕Int⊕Unit):=bif a then (some (.inr (.inl 2)))else (some (.inl (wi (b+1))))
def LF193_9 (d:Sl G245) (c:Int):Option (Int⊕Int⊕Unit):=bif (decide (c<(ln d)))then ((gx (Sl.es d) c).bind λa=>(F260 a.fO).bind λb=>bif (b.2 !=0)then (some (.inr (.inl b.2)))else (bif (decide (a.fA<1))then (JF193_17 c true)else (JF193_17 c (decide (a.fA>6)))))else (some (.inr (.inr ())))
def F193 (a:Sl G245):Option Int:=bif (decide ((ln a)>8))then (some 9)else ((Xg (λ(c:Int)=>LF193_9 a c) 0).bind λb=>match b with|(.inl v4)=>some v4|(.inr ())=>JF193_2)
def JF286_7 (a:Bool):Option Int:=bif a then (some 3)else (some 0)
def JF286_5 (a:G171):Option Int:=bif (ByteArray.toList a.fP==ByteArray.toList (ByteArray.mk #[]))then (JF286_7 (a.faq==1))else (JF286_7 false)
def JF286_18 (a:Int) (b:Bool):Option (Int⊕Unit⊕Unit):=bif b then (some (.inr (.inl ())))else (some (.inl (wi (a+1))))
def LF286_15 (c:G171) (a:Int):Option (Int⊕Unit⊕Unit):=bif (decide (a<(lns c.fP)))then ((gch c.fP a).bind λd=>bif (decide (((UInt8.toNat d:Nat):Int)<32))then (JF286_18 a true)else ((gch c.fP a).bind λb=>JF286_18 a (((UInt8.toNat b:Nat):Int)==127)))else (some (.inr (.inr ())))
def JF286_2 (a:G171) (d:Bool):Option Int:=bif d then (some 2)else (bif (decide ((lns a.fP)>256))then (some 5)else ((Xg (λ(b:Int)=>LF286_15 a b) 0).bind λc=>match c with|(.inl ())=>some 6|(.inr ())=>JF286_5 a))
def F286 (a:G171):Option Int:=bif (decide (a.faq<0))then (JF286_2 a true)else (JF286_2 a (decide (a.faq>2)))
def F287 (a:G171):Option Bool:=some ((a.fP==(ByteArray.mk #[]))&&((a.faq==0)&&true))
def JF221_4 (a:Bool):Option Int:=bif a then (some 3)else (some 0)
def JF221_2 (a:Sl G171):Option Int:=bif (decide ((ln a)>0))then ((gx (Sl.es a) (wi ((ln a)-(1)))).bind λc=>(F287 c).bind λb=>JF221_4 b)else (JF221_4 false)
def LF221_17 (d:Sl G171) (a:Int):Option (Int⊕Int⊕Unit):=bif (decide (a<(ln d)))then ((gx (Sl.es d) a).bind λc=>(F286 c).bind λb=>bif (b !=0)then (some (.inr (.inl b)))else (some (.inl (wi (a+1)))))else (some (.inr (.inr ())))
def F221 (a:Sl G171):Option Int:=bif (decide ((ln a)>4))then (some 9)else ((Xg (λ(b:Int)=>LF221_17 a b) 0).bind λc=>match c with|(.inl v12)=>some v12|(.inr ())=>JF221_2 a)
def JF142_19 (a:G147):Option Int:=(F215 a.fZ 31).bind λf=>(F215 a.fab 4).bind λg=>(F215 a.f4 9).bind λd=>(F215 a.fao 2).bind λe=>(F215 a.fau 2).bind λb=>(F214 (Sl.full [f,g,d,e,b])).bind λc=>some c
def JF142_17 (a:G147) (c:Bool):Option Int:=bif c then (some 17)else (bif (a.fq==1)then ((F220 a.fD).bind λf=>(F193 a.fS).bind λd=>(F221 a.fv).bind λe=>(F214 (Sl.full [f,d,e])).bind λb=>bif (b !=0)then (some b)else (JF142_19 a))else (JF142_19 a))
def F142 (a:G147):Option Int:=(F215 a.fID.fM 99).bind λh=>(F215 a.fID.fU 1073741824).bind λg=>(F214 (Sl.full [h,g])).bind λe=>bif (e !=0)then (some e)else ((F216 a.fq).bind λf=>bif (!f)then (some 11)else ((F218 a).bind λd=>(F217 a d).bind λc=>bif (!c)then (some 3)else (bif (a.fq !=3)then ((F219 a.fw).bind λb=>JF142_17 a (b !=0))else (JF142_17 a false))))
def F207 (b:G147):Option Bool:=(F142 b).bind λa=>some (a !=0)
def JF280_1_1:Option Int:=some (-1)
def LF280_1_8 (d:Sl G147) (a:Int):Option (Int⊕Int⊕Unit):=bif (decide (a<(ln d)))then ((gx (Sl.es d) a).bind λb=>(F207 b).bind λc=>bif c then (some (.inr (.inl a)))else (some (.inl (wi (a+1)))))else (some (.inr (.inr ())))
def F280_1 (b:Sl G147):Option Int:=(Xg (λ(c:Int)=>LF280_1_8 b c) 0).bind λa=>match a with|(.inl v3)=>some v3|(.inr ())=>JF280_1_1
def F212_1 (a:Sl G147):Option Bool:=(F280_1 a).bind λb=>some (decide (b>=0))
def F306 (a:G100):Option Bool:=bif (decide ((ln a.fg)>0))then ((gx (Sl.es a.fg) 0).bind λb=>some (b.fq==3))else (some false)
def JF336_4 (a:Int):Option Int:=some a
def LF336_13 (d:G142) (a:Int) (b:Int) (c:Int):Option ((Int×Int×Int)⊕Int):=bif (decide (c<d.fF))then (some (.inl ((wi (Int.tdiv a 2)),wi (b+(wi (Int.tdiv a 2))),wi (c+1))))else (some (.inr b))
def F336 (b:G142):Option Int:=(gshr .i64 3870720 (wi (b.fA+1))).bind λa=>(Xg (λ((d,c,e):Int×Int×Int)=>LF336_13 b d c e) (a,a,0)).bind λf=>match f with|v8=>JF336_4 v8
def F330 (b:G142):Option (Int×Int):=(F219 b).bind λa=>bif (a !=0)then (some (0,a))else ((F336 b).bind λc=>some (c,0))
def JF325_4 (b:Int) (c:G147) (d:Bool):Option (Int×Int):=bif d then (some (0,b))else ((F330 c.fw).bind λa=>some (a.1,a.2))
def F325 (a:G147):Option (Int×Int):=(F142 a).bind λb=>bif (b !=0)then (JF325_4 b a true)else (JF325_4 b a (a.fq==3))
def JF318_4:Option (Sl Int):=some (Sl.no ([]:List Int))
def LF318_10 (b:Sl G147) (c:Int):Option (Int⊕Unit):=bif (decide (c<(ln b)))then ((gx (Sl.es b) c).bind λa=>(F325 a).bind λd=>none)else (some (.inr ()))
def JF318_17 (b:Nat) (a:List Int):Option (Sl Int):=(gfz b a).bind λ(_:Unit)=>some (Sl.no a)
def LF318_25 (f:Sl G147) (g:Nat) (a:Int) (b:List Int):Option ((Int×(List Int))⊕List Int):=bif (decide (a<(ln f)))then ((gx (Sl.es f) a).bind λd=>(F325 d).bind λc=>(gin a g).bind λh=>(gset b a c.1).bind λe=>some (.inl ((wi (a+1)),e)))else (some (.inr b))
def F318 (a:Sl G147):Option (Sl Int):=bif ((ln a)==0)then ((Xg (λ(g:Int)=>LF318_10 a g) 0).bind λf=>match f with|()=>JF318_4)else ((gmk 8 (ln a)).bind λc=>(Xg (λ((e,b):Int×(List Int))=>LF318_25 a c e b) (0,List.replicate c (0:Int))).bind λd=>match d with|v20=>JF318_17 c v20)
def F337 (a:G425) (b:Int):Option Bool:=bif (decide (b>=a.fav))then (some (decide ((wi (b-a.fav))<a.fI)))else (some false)
def JF338_3 (a:Int):Option Int:=some a
def LF338_11 (c:Int) (a:Int):Option ((Int×Int)⊕Int):=bif (decide (a>0))then ((gr c a).bind λb=>some (.inl (a,b)))else (some (.inr c))
def F338 (d:Int) (a:Int):Option Int:=(Xg (λ((e,b):Int×Int)=>LF338_11 e b) (d,a)).bind λc=>match c with|v6=>JF338_3 v6
def JF335_4 (b:Int) (a:Int):Option (Int×Int):=some (b,a)
def LF335_14 (i:Sl G425) (j:Int) (e:Int) (c:Int) (d:Int):Option ((Int×Int×Int)⊕(Int×Int)):=bif (decide (d<(ln i)))then ((gx (Sl.es i) d).bind λa=>(F337 a j).bind λf=>bif f then ((F338 (wi (e*a.far)) (wi (c*a.fap))).bind λb=>(gq .i64 (wi (e*a.far)) b).bind λh=>(gq .i64 (wi (c*a.fap)) b).bind λg=>some (.inl (h,g,wi (d+1))))else (some (.inl (e,c,wi (d+1)))))else (some (.inr (e,c)))
def F335 (g:Sl G425) (a:Int):Option (Int×Int):=(Xg (λ((e,c,b):Int×Int×Int)=>LF335_14 g a e c b) (1,1,0)).bind λ(d,f)=>JF335_4 d f
def JF327_4 (g:Sl G425) (d:Int) (c:Int) (f:Bool):Option (Int×Int):=bif f then (some (0,2))else ((F335 g d).bind λa=>(gr (wi (c*a.1)) a.2).bind λe=>bif (e !=0)then (some (0,16))else ((gq .i64 (wi (c*a.1)) a.2).bind λb=>some (b,0)))
def F327 (c:Sl G425) (b:Int) (a:Int):Option (Int×Int):=bif (decide (a<0))then (JF327_4 c b a true)else (JF327_4 c b a (decide (a>7741440)))
def JF319_8 (a:List Int):Option ((Sl Int)×Int):=some ((Sl.no a),0)
def LF319_17 (e:Sl Int) (g:Sl G425) (f:List Int) (a:Int):Option (((List Int)×Int)⊕Int⊕List Int):=bif (decide (a<(ln e)))then ((gx (Sl.es e) a).bind λc=>(F327 g a c).bind λb=>bif (b.2 !=0)then (some (.inr (.inl b.2)))else ((gapp 8 f (Sl.es (Sl.full [b.1]))).bind λd=>some (.inl (d,wi (a+1)))))else (some (.inr (.inr f)))
def F319 (e:Sl G425) (a:Sl Int):Option ((Sl Int)×Int):=(F326 e (ln a)).bind λd=>bif (d !=0)then (some (Sl.nil,d))else ((gmc 8 (ln a)).bind λg=>(Xg (λ((f,b):(List Int)×Int)=>LF319_17 a e f b) (([]:List Int),0)).bind λc=>match c with|(.inl v11)=>some (Sl.nil,v11)|(.inr v12)=>JF319_8 v12)
def F332 (a:G425):Option Int:=some (wi (a.fav+a.fI))
def JF328_7:Option (Int×Bool):=some (0,false)
def LF328_14 (d:Int) (c:G425) (a:Int):Option (Int⊕Int⊕Unit):=bif (decide (a<=8))then ((gshr .i64 3870720 (wi (a+1))).bind λb=>bif (d==(wi (c.fap*b)))then (some (.inr (.inl a)))else (some (.inl (wi (a+1)))))else (some (.inr (.inr ())))
def JF328_6 (b:G425) (c:Int):Option (Int×Bool):=(Xg (λ(d:Int)=>LF328_14 c b d) (-1)).bind λa=>match a with|(.inl v9)=>some (v9,true)|(.inr ())=>JF328_7
def LF328_26 (j:G425) (g:Sl G425) (i:Int) (h:Sl Int) (c:Int) (a:Int):Option ((Int×Int)⊕Unit⊕Int):=(F332 j).bind λe=>bif (decide (a<e))then ((gslR g (wi (i+1)) (ln g)).bind λd=>(gx (Sl.es h) a).bind λf=>(F327 d a f).bind λb=>bif (b.2 !=0)then (some (.inr (.inl ())))else (some (.inl ((wi (c+b.1)),wi (a+1)))))else (some (.inr (.inr c)))
def F328 (f:Sl G425) (e:Int) (g:Sl Int):Option (Int×Bool):=(gx (Sl.es f) e).bind λd=>(Xg (λ((b,c):Int×Int)=>LF328_26 d f e g b c) (0,d.fav)).bind λa=>match a with|(.inl ())=>some (0,false)|(.inr v21)=>JF328_6 d v21
def JF320_8 (a:List Int):Option ((Sl Int)×Int):=some ((Sl.no a),0)
def LF320_16 (d:Sl G425) (f:Sl Int) (e:List Int) (a:Int):Option (((List Int)×Int)⊕Unit⊕List Int):=bif (decide (a<(ln d)))then ((F328 d a f).bind λb=>bif (!b.2)then (some (.inr (.inl ())))else ((gapp 8 e (Sl.es (Sl.full [b.1]))).bind λc=>some (.inl (c,wi (a+1)))))else (some (.inr (.inr e)))
def F320 (a:Sl G425) (d:Sl Int):Option ((Sl Int)×Int):=(F319 a d).bind λe=>bif (e.2 !=0)then (some (Sl.nil,e.2))else ((gmc 8 (ln a)).bind λg=>(Xg (λ((f,c):(List Int)×Int)=>LF320_16 a d f c) (([]:List Int),0)).bind λb=>match b with|(.inl ())=>some (Sl.nil,21)|(.inr v11)=>JF320_8 v11)
def JF307_1 (a:G100):Option ((Sl Int)×Int):=(F318 a.fg).bind λc=>(F319 a.fY c).bind λb=>bif (b.2 !=0)then (some (Sl.nil,b.2))else ((F320 a.fY c).bind λd=>bif (d.2 !=0)then (some (Sl.nil,21))else (some (b.1,0)))
def JF307_24 (b:Int) (a:Bool):Option (Int⊕Int⊕Unit):=bif a then (some (.inr (.inl 11)))else (some (.inl (wi (b+1))))
def LF307_16 (d:G100) (a:Int):Option (Int⊕Int⊕Unit):=bif (decide (a<(ln d.fg)))then ((gx (Sl.es d.fg) a).bind λb=>(F142 b).bind λc=>bif (c !=0)then (some (.inr (.inl c)))else (bif (b.fq==3)then (bif (decide (a>0))then (JF307_24 a true)else (JF307_24 a (decide ((ln d.fg)>1))))else (JF307_24 a false)))else (some (.inr (.inr ())))
def F307 (c:G100):Option ((Sl Int)×Int):=(Xg (λ(a:Int)=>LF307_16 c a) 0).bind λb=>match b with|(.inl v11)=>some (Sl.nil,v11)|(.inr ())=>JF307_1 c
def JF257_7 (c:G100) (d:Int) (e:Bool):Option ((Sl Int)×Int):=bif e then ((gx (Sl.es c.fg) 0).bind λf=>(F142 f).bind λa=>bif (a !=0)then (some (Sl.nil,a))else (bif (decide ((ln c.fY)>0))then (some (Sl.nil,21))else (some ((Sl.full [d]),0))))else ((F307 c).bind λb=>some (b.1,b.2))
def JF257_3 (a:G100) (c:Int) (d:Bool):Option ((Sl Int)×Int):=bif d then (some (Sl.nil,2))else (bif (decide ((ln a.fg)>128))then (some (Sl.nil,9))else ((F306 a).bind λb=>bif b then (JF257_7 a c ((ln a.fg)==1))else (JF257_7 a c false)))
def F257 (b:G100) (a:Int):Option ((Sl Int)×Int):=bif (decide (a<1))then (JF257_3 b a true)else (JF257_3 b a (decide (a>15482880)))
def JF258_2 (a:Int):Option Int:=some a
def LF258_10 (c:Sl Int) (d:Int) (a:Int):Option ((Int×Int)⊕Int):=bif (decide (a<(ln c)))then ((gx (Sl.es c) a).bind λb=>some (.inl ((wi (d+b)),wi (a+1))))else (some (.inr d))
def F258 (b:Sl Int):Option Int:=(Xg (λ((a,c):Int×Int)=>LF258_10 b a c) (0,0)).bind λd=>match d with|v5=>JF258_2 v5
def JF188_5 (b:(Sl Int)×Int) (a:Int):Option ((Sl Int)×Int):=bif (a !=0)then (some (Sl.nil,a))else (some (b.1,0))
def JF188_8 (a:(Sl Int)×Int) (b:Bool):Option ((Sl Int)×Int):=bif b then (JF188_5 a 20)else (JF188_5 a a.2)
def F188 (d:G100) (c:Int):Option ((Sl Int)×Int):=(F257 d c).bind λa=>bif (a.2==0)then (bif (decide ((ln a.1)>0))then ((F258 a.1).bind λb=>JF188_8 a (b !=c))else (JF188_8 a false))else (JF188_8 a false)
def F213 (b:G100) (a:Int):Option Int:=(F188 b a).bind λc=>some c.2
def F138 (a:Int):Option Bool:=bif (a==11)then (some true)else (some (a==20))
def F211_1 (a:G100) (b:Int):Option Bool:=(F212_1 a.fg).bind λe=>bif (!e)then ((F213 a b).bind λc=>(F138 c).bind λd=>some d)else (some false)
def JF279_1_2:Option Int:=some (-1)
def LF279_1_9 (d:Sl G100) (e:Int) (a:Int):Option (Int⊕Int⊕Unit):=bif (decide (a<(ln d)))then ((gx (Sl.es d) a).bind λb=>(F211_1 b e).bind λc=>bif c then (some (.inr (.inl a)))else (some (.inl (wi (a+1)))))else (some (.inr (.inr ())))
def F279_1 (c:Sl G100) (b:Int):Option Int:=(Xg (λ(d:Int)=>LF279_1_9 c b d) 0).bind λa=>match a with|(.inl v4)=>some v4|(.inr ())=>JF279_1_2
def F210_1 (b:Sl G100) (a:Int):Option Bool:=(F279_1 b a).bind λc=>some (decide (c>=0))
def F209_1 (b:G95) (a:Int):Option Bool:=(F210_1 b.fh a).bind λc=>some c
def JF278_1_2:Option Int:=some (-1)
def LF278_1_9 (d:Sl G95) (e:Int) (a:Int):Option (Int⊕Int⊕Unit):=bif (decide (a<(ln d)))then ((gx (Sl.es d) a).bind λb=>(F209_1 b e).bind λc=>bif c then (some (.inr (.inl a)))else (some (.inl (wi (a+1)))))else (some (.inr (.inr ())))
def F278_1 (c:Sl G95) (b:Int):Option Int:=(Xg (λ(d:Int)=>LF278_1_9 c b d) 0).bind λa=>match a with|(.inl v4)=>some v4|(.inr ())=>JF278_1_2
def F208_1 (b:Sl G95) (a:Int):Option Bool:=(F278_1 b a).bind λc=>some (decide (c>=0))
def F206_1 (d:Int) (a:G75):Option Bool:=(F99 a).bind λb=>bif (b.2 !=0)then (some false)else ((F208_1 a.ff b.1).bind λc=>some c)
def LF131_4_11 (e:G27) (g:Int) (b:Int) (f:List G159):Option ((Int×(List G159))⊕List G159):=bif (decide (b<(ln e.fc)))then ((gx (Sl.es e.fc) b).bind λa=>(F206_1 b a).bind λd=>(Yf d a.fID e g f).bind λc=>some (.inl ((wi (b+1)),c)))else (some (.inr f))
def F131_4 (e:G27) (a:Int) (c:List G159):Option (List G159):=(Xg (λ((f,b):Int×(List G159))=>LF131_4_11 e a f b) (0,c)).bind λd=>match d with|v6=>some v6
def F137_1 (b:G27) (a:Int) (d:List G159):Option (List G159):=(F131_4 b a d).bind λc=>some c
def F65_1 (b:G27) (a:Int) (d:List G159):Option (List G159):=(F137_1 b a d).bind λc=>some c
def F139 (a:Int):Option Bool:=bif (a !=0)then ((F138 a).bind λb=>some (!b))else (some false)
def F211_2 (a:G100) (b:Int):Option Bool:=(F212_1 a.fg).bind λe=>bif (!e)then ((F213 a b).bind λc=>(F139 c).bind λd=>some d)else (some false)
def JF279_2_2:Option Int:=some (-1)
def LF279_2_9 (d:Sl G100) (e:Int) (a:Int):Option (Int⊕Int⊕Unit):=bif (decide (a<(ln d)))then ((gx (Sl.es d) a).bind λb=>(F211_2 b e).bind λc=>bif c then (some (.inr (.inl a)))else (some (.inl (wi (a+1)))))else (some (.inr (.inr ())))
def F279_2 (c:Sl G100) (b:Int):Option Int:=(Xg (λ(d:Int)=>LF279_2_9 c b d) 0).bind λa=>match a with|(.inl v4)=>some v4|(.inr ())=>JF279_2_2
def F210_2 (b:Sl G100) (a:Int):Option Bool:=(F279_2 b a).bind λc=>some (decide (c>=0))
def F209_2 (b:G95) (a:Int):Option Bool:=(F210_2 b.fh a).bind λc=>some c
def JF278_2_2:Option Int:=some (-1)
def LF278_2_9 (d:Sl G95) (e:Int) (a:Int):Option (Int⊕Int⊕Unit):=bif (decide (a<(ln d)))then ((gx (Sl.es d) a).bind λb=>(F209_2 b e).bind λc=>bif c then (some (.inr (.inl a)))else (some (.inl (wi (a+1)))))else (some (.inr (.inr ())))
def F278_2 (c:Sl G95) (b:Int):Option Int:=(Xg (λ(d:Int)=>LF278_2_9 c b d) 0).bind λa=>match a with|(.inl v4)=>some v4|(.inr ())=>JF278_2_2
def F208_2 (b:Sl G95) (a:Int):Option Bool:=(F278_2 b a).bind λc=>some (decide (c>=0))
def F206_2 (d:Int) (a:G75):Option Bool:=(F99 a).bind λb=>bif (b.2 !=0)then (some false)else ((F208_2 a.ff b.1).bind λc=>some c)
def LF131_5_11 (e:G27) (g:Int) (b:Int) (f:List G159):Option ((Int×(List G159))⊕List G159):=bif (decide (b<(ln e.fc)))then ((gx (Sl.es e.fc) b).bind λa=>(F206_2 b a).bind λd=>(Yf d a.fID e g f).bind λc=>some (.inl ((wi (b+1)),c)))else (some (.inr f))
def F131_5 (e:G27) (a:Int) (c:List G159):Option (List G159):=(Xg (λ((f,b):Int×(List G159))=>LF131_5_11 e a f b) (0,c)).bind λd=>match d with|v6=>some v6
def F137_2 (b:G27) (a:Int) (d:List G159):Option (List G159):=(F131_5 b a d).bind λc=>some c
def F66_1 (b:G27) (a:Int) (d:List G159):Option (List G159):=(F137_2 b a d).bind λc=>some c
def F141 (c:G236) (a:G147):Option Bool:=(F142 a).bind λb=>some (b !=0)
def Qs (b:Int) (a:List G159):Option ((Int×(List G159))⊕List G159):=some (.inl ((wi (b+1)),a))
def Qr (a:Int) (b:List G159):Option ((Int×(List G159))⊕List G159):=some (.inl ((wi (a+1)),b))
def Qq (a:Int) (b:List G159):Option ((Int×(List G159))⊕List G159):=some (.inl ((wi (a+1)),b))
def LF140_1_50 (b:G100) (f:Int) (k:Int) (e:Int) (j:G27) (i:Int) (a:Int) (d:List G159):Option ((Int×(List G159))⊕List G159):=bif (decide (a<(ln b.fg)))then ((gx (Sl.es b.fg) a).bind λc=>(F141 (⟨4,0,f,k,e,a,0⟩:G236) c).bind λg=>(Yf g c.fID j i d).bind λh=>some (.inl ((wi (a+1)),h)))else (some (.inr d))
def LF140_1_37 (b:G95) (f:Int) (k:Int) (j:G27) (i:Int) (a:Int) (c:List G159):Option ((Int×(List G159))⊕List G159):=bif (decide (a<(ln b.fh)))then ((gx (Sl.es b.fh) a).bind λe=>(Xg (λ((g,h):Int×(List G159))=>LF140_1_50 e f k a j i g h) (0,c)).bind λd=>match d with|v45=>Qq a v45)else (some (.inr c))
def LF140_1_24 (b:G75) (j:Int) (i:G27) (h:Int) (a:Int) (c:List G159):Option ((Int×(List G159))⊕List G159):=bif (decide (a<(ln b.ff)))then ((gx (Sl.es b.ff) a).bind λd=>(Xg (λ((e,f):Int×(List G159))=>LF140_1_37 d a j i h e f) (0,c)).bind λg=>match g with|v32=>Qr a v32)else (some (.inr c))
def LF140_1_11 (f:G27) (h:Int) (a:Int) (g:List G159):Option ((Int×(List G159))⊕List G159):=bif (decide (a<(ln f.fc)))then ((gx (Sl.es f.fc) a).bind λd=>(Xg (λ((b,e):Int×(List G159))=>LF140_1_24 d a f h b e) (0,g)).bind λc=>match c with|v19=>Qs a v19)else (some (.inr g))
def F140_1 (e:G27) (a:Int) (c:List G159):Option (List G159):=(Xg (λ((f,b):Int×(List G159))=>LF140_1_11 e a f b) (0,c)).bind λd=>match d with|v6=>some v6
def F67_1 (b:G27) (a:Int) (d:List G159):Option (List G159):=(F140_1 b a d).bind λc=>some c
def JF144_3:Option (Int×Int×Int):=some (0,0,2)
def LF144_12 (d:G27) (c:Int) (b:Int):Option ((Int×Int)⊕((Int×Int)⊕Unit)):=bif (decide (b<(ln d.fi)))then ((gx (Sl.es d.fi) b).bind λa=>bif (decide (c<(ln a.fx)))then (some (.inr (.inl (b,c))))else (some (.inl ((wi (c-(ln a.fx))),wi (b+1)))))else (some (.inr (.inr ())))
def F144 (d:G27) (a:Int):Option (Int×Int×Int):=bif (decide (a<0))then (some (0,0,2))else ((Xg (λ((e,b):Int×Int)=>LF144_12 d e b) (a,0)).bind λc=>match c with|(.inl (v6,v7))=>some (v6,v7,0)|(.inr ())=>JF144_3)
def F145_1 (b:G80) (a:Int):Option Bool:=(F77 b).bind λc=>(F125 (wi (c.1+a)) 0 127).bind λd=>some (!d)
def F147_1 (b:G182) (a:Int):Option Bool:=(F145_1 b.fO a).bind λc=>some c
def JF222_1_2:Option Int:=some (-1)
def LF222_1_9 (d:Sl G182) (e:Int) (a:Int):Option (Int⊕Int⊕Unit):=bif (decide (a<(ln d)))then ((gx (Sl.es d) a).bind λb=>(F147_1 b e).bind λc=>bif c then (some (.inr (.inl a)))else (some (.inl (wi (a+1)))))else (some (.inr (.inr ())))
def F222_1 (c:Sl G182) (b:Int):Option Int:=(Xg (λ(d:Int)=>LF222_1_9 c b d) 0).bind λa=>match a with|(.inl v4)=>some v4|(.inr ())=>JF222_1_2
def F146_1 (b:Sl G182) (a:Int):Option Bool:=(F222_1 b a).bind λc=>some (decide (c>=0))
def F149_1 (b:G245) (a:Int):Option Bool:=(F145_1 b.fO a).bind λc=>some c
def JF223_1_2:Option Int:=some (-1)
def LF223_1_9 (d:Sl G245) (e:Int) (a:Int):Option (Int⊕Int⊕Unit):=bif (decide (a<(ln d)))then ((gx (Sl.es d) a).bind λb=>(F149_1 b e).bind λc=>bif c then (some (.inr (.inl a)))else (some (.inl (wi (a+1)))))else (some (.inr (.inr ())))
def F223_1 (c:Sl G245) (b:Int):Option Int:=(Xg (λ(d:Int)=>LF223_1_9 c b d) 0).bind λa=>match a with|(.inl v4)=>some v4|(.inr ())=>JF223_1_2
def F148_1 (b:Sl G245) (a:Int):Option Bool:=(F223_1 b a).bind λc=>some (decide (c>=0))
def JF143_1_17 (d:G147) (a:Int):Option Bool:=(F146_1 d.fD a).bind λc=>bif c then (some true)else ((F148_1 d.fS a).bind λb=>some b)
def JF143_1_15 (c:G27) (b:G147) (a:Int):Option Bool:=bif c.faH then (JF143_1_17 b (wi (0-a)))else (JF143_1_17 b a)
def F143_1 (m:Int) (l:Int) (f:Int) (k:Int) (n:Int) (i:Int) (h:Int) (d:G147) (b:G27) (j:Int) (g:List G159):Option Bool:=(F142 d).bind λe=>bif (e !=0)then (some false)else ((F144 b f).bind λa=>bif (a.2.2==0)then ((gx (Sl.es b.fi) a.1).bind λc=>JF143_1_15 b d c.faJ.fac)else (JF143_1_15 b d 0))
def Qp (b:Int) (a:List G159):Option ((Int×(List G159))⊕List G159):=some (.inl ((wi (b+1)),a))
def Qo (a:Int) (b:List G159):Option ((Int×(List G159))⊕List G159):=some (.inl ((wi (a+1)),b))
def Qn (a:Int) (b:List G159):Option ((Int×(List G159))⊕List G159):=some (.inl ((wi (a+1)),b))
def LF140_2_50 (c:G100) (f:Int) (k:Int) (e:Int) (j:G27) (i:Int) (a:Int) (b:List G159):Option ((Int×(List G159))⊕List G159):=bif (decide (a<(ln c.fg)))then ((gx (Sl.es c.fg) a).bind λd=>(F143_1 4 0 f k e a 0 d j i b).bind λh=>(Yf h d.fID j i b).bind λg=>some (.inl ((wi (a+1)),g)))else (some (.inr b))
def LF140_2_37 (b:G95) (f:Int) (k:Int) (j:G27) (i:Int) (a:Int) (c:List G159):Option ((Int×(List G159))⊕List G159):=bif (decide (a<(ln b.fh)))then ((gx (Sl.es b.fh) a).bind λe=>(Xg (λ((g,h):Int×(List G159))=>LF140_2_50 e f k a j i g h) (0,c)).bind λd=>match d with|v45=>Qn a v45)else (some (.inr c))
def LF140_2_24 (b:G75) (j:Int) (i:G27) (h:Int) (a:Int) (c:List G159):Option ((Int×(List G159))⊕List G159):=bif (decide (a<(ln b.ff)))then ((gx (Sl.es b.ff) a).bind λd=>(Xg (λ((e,f):Int×(List G159))=>LF140_2_37 d a j i h e f) (0,c)).bind λg=>match g with|v32=>Qo a v32)else (some (.inr c))
def LF140_2_11 (f:G27) (h:Int) (a:Int) (g:List G159):Option ((Int×(List G159))⊕List G159):=bif (decide (a<(ln f.fc)))then ((gx (Sl.es f.fc) a).bind λd=>(Xg (λ((b,e):Int×(List G159))=>LF140_2_24 d a f h b e) (0,g)).bind λc=>match c with|v19=>Qp a v19)else (some (.inr g))
def F140_2 (e:G27) (a:Int) (c:List G159):Option (List G159):=(Xg (λ((f,b):Int×(List G159))=>LF140_2_11 e a f b) (0,c)).bind λd=>match d with|v6=>some v6
def F68_1 (b:G27) (a:Int) (d:List G159):Option (List G159):=(F140_2 b a d).bind λc=>some c
def F224 (a:G182):Option Bool:=some a.faK
def JF222_2_1:Option Int:=some (-1)
def LF222_2_8 (d:Sl G182) (a:Int):Option (Int⊕Int⊕Unit):=bif (decide (a<(ln d)))then ((gx (Sl.es d) a).bind λb=>(F224 b).bind λc=>bif c then (some (.inr (.inl a)))else (some (.inl (wi (a+1)))))else (some (.inr (.inr ())))
def F222_2 (b:Sl G182):Option Int:=(Xg (λ(c:Int)=>LF222_2_8 b c) 0).bind λa=>match a with|(.inl v3)=>some v3|(.inr ())=>JF222_2_1
def F146_2 (a:Sl G182):Option Bool:=(F222_2 a).bind λb=>some (decide (b>=0))
def F151 (a:G147):Option Bool:=bif (a.fq==1)then ((F146_2 a.fD).bind λb=>some b)else (some false)
def Vq (g:G27) (f:Int) (c:Int) (e:Int) (h:Bool):Option (Sl G147):=bif h then (some Sl.nil)else ((gx (Sl.es g.fc) f).bind λb=>(gx (Sl.es b.ff) c).bind λd=>(gx (Sl.es d.fh) e).bind λa=>some a.fg)
def F226 (c:G27) (a:Int) (b:Int) (d:Int):Option (Sl G147):=bif (decide (a<0))then (Vq c a b d true)else (bif (decide (a>=(ln c.fc)))then (Vq c a b d true)else (bif (decide (b<0))then (Vq c a b d true)else ((gx (Sl.es c.fc) a).bind λe=>bif (decide (b>=(ln e.ff)))then (Vq c a b d true)else (bif (decide (d<0))then (Vq c a b d true)else ((gx (Sl.es c.fc) a).bind λf=>(gx (Sl.es f.ff) b).bind λg=>Vq c a b d (decide (d>=(ln g.fh))))))))
def JF225_4 (a:Bool):Option Int:=bif a then (some 2)else (some 0)
def F225 (b:G27) (a:G236):Option Int:=bif (a.fq !=4)then (some 11)else (bif (decide (a.f9<0))then (JF225_4 true)else ((F226 b a.fo a.fC a.fB).bind λc=>JF225_4 (decide (a.f9>=(ln c)))))
def F227 (b:Int) (a:Int) (c:Int) (d:Int):Option G236:=some (⟨4,0,a,b,c,d,0⟩:G236)
def F152 (d:G27) (a:G236):Option (G236×Bool):=(F225 d a).bind λf=>bif (f !=0)then (some ((⟨0,0,0,0,0,0,0⟩:G236),false))else ((F226 d a.fo a.fC a.fB).bind λg=>bif (decide ((wi (a.f9+1))<(ln g)))then ((F227 a.fo a.fC a.fB (wi (a.f9+1))).bind λc=>some ((⟨c.fq,c.faB,c.fC,c.fo,c.fB,c.f9,c.faC⟩:G236),true))else ((F226 d (wi (a.fo+1)) a.fC a.fB).bind λe=>bif (decide ((ln e)>0))then ((F227 (wi (a.fo+1)) a.fC a.fB 0).bind λb=>some ((⟨b.fq,b.faB,b.fC,b.fo,b.fB,b.f9,b.faC⟩:G236),true))else (some ((⟨0,0,0,0,0,0,0⟩:G236),false))))
def F288 (a:Sl G182):Option (Sl G182):=bif (Sl.isNil a)then (some Sl.nil)else (bif (List.isEmpty (Sl.es a))then (some (Sl.full []))else ((gapp 40 [] (Sl.es a)).bind λb=>some (mkSl b)))
def F289 (a:Sl G245):Option (Sl G245):=bif (Sl.isNil a)then (some Sl.nil)else (bif (List.isEmpty (Sl.es a))then (some (Sl.full []))else ((gapp 40 [] (Sl.es a)).bind λb=>some (mkSl b)))
def F290 (a:Sl G171):Option (Sl G171):=bif (Sl.isNil a)then (some Sl.nil)else (bif (List.isEmpty (Sl.es a))then (some (Sl.full []))else ((gapp 24 [] (Sl.es a)).bind λb=>some (mkSl b)))
def F228 (a:G147):Option G147:=(F288 a.fD).bind λb=>(F289 a.fS).bind λd=>(F290 a.fv).bind λc=>some (⟨(⟨a.fID.fM,a.fID.fU⟩:G58),a.fq,(⟨a.fw.fA,a.fw.fF⟩:G142),b,d,a.fZ,a.fab,a.f4,c,a.fao,a.fau⟩:G147)
def F153 (d:G27) (b:G236):Option (G147×Int):=(F225 d b).bind λc=>bif (c !=0)then (some ((⟨(⟨0,0⟩:G58),0,(⟨0,0⟩:G142),.nil,.nil,0,0,0,.nil,0,0⟩:G147),c))else ((F226 d b.fo b.fC b.fB).bind λf=>(gx (Sl.es f) b.f9).bind λe=>(F228 e).bind λa=>some ((⟨(⟨a.fID.fM,a.fID.fU⟩:G58),a.fq,(⟨a.fw.fA,a.fw.fF⟩:G142),a.fD,a.fS,a.fZ,a.fab,a.f4,a.fv,a.fao,a.fau⟩:G147),0))
def F229_1 (b:G182) (a:G182):Option Bool:=some ((b.fO.fW==a.fO.fW)&&((b.fO.fal==a.fO.fal)&&((b.fO.fas==a.fO.fas)&&true)))
def JF222_3_2:Option Int:=some (-1)
def LF222_3_9 (d:Sl G182) (e:G182) (a:Int):Option (Int⊕Int⊕Unit):=bif (decide (a<(ln d)))then ((gx (Sl.es d) a).bind λb=>(F229_1 b e).bind λc=>bif c then (some (.inr (.inl a)))else (some (.inl (wi (a+1)))))else (some (.inr (.inr ())))
def F222_3 (c:Sl G182) (b:G182):Option Int:=(Xg (λ(d:Int)=>LF222_3_9 c b d) 0).bind λa=>match a with|(.inl v4)=>some v4|(.inr ())=>JF222_3_2
def F146_3 (b:Sl G182) (a:G182):Option Bool:=(F222_3 b a).bind λc=>some (decide (c>=0))
def JF154_3:Option Bool:=some true
def JF154_14 (b:Int) (a:Bool):Option (Int⊕Unit⊕Unit):=bif a then (some (.inr (.inl ())))else (some (.inl (wi (b+1))))
def LF154_9 (e:G147) (d:G147) (b:Int):Option (Int⊕Unit⊕Unit):=bif (decide (b<(ln e.fD)))then ((gx (Sl.es e.fD) b).bind λa=>bif a.faK then (bif (d.fq==1)then ((F146_3 d.fD a).bind λc=>JF154_14 b (!c))else (JF154_14 b true))else (JF154_14 b false))else (some (.inr (.inr ())))
def F154 (a:G147) (c:G147):Option Bool:=bif (a.fq !=1)then (some true)else ((Xg (λ(d:Int)=>LF154_9 a c d) 0).bind λb=>match b with|(.inl ())=>some false|(.inr ())=>JF154_3)
def F150_1 (m:Int) (l:Int) (i:Int) (k:Int) (n:Int) (h:Int) (g:Int) (e:G147) (f:G27) (o:Int) (j:List G159):Option Bool:=(F151 e).bind λd=>bif (!d)then (some false)else ((F152 f (⟨m,l,i,k,n,h,g⟩:G236)).bind λa=>(F153 f a.1).bind λb=>bif (!a.2)then (some true)else ((F154 e b.1).bind λc=>some (!c)))
def Qm (b:Int) (a:List G159):Option ((Int×(List G159))⊕List G159):=some (.inl ((wi (b+1)),a))
def Ql (a:Int) (b:List G159):Option ((Int×(List G159))⊕List G159):=some (.inl ((wi (a+1)),b))
def Qk (a:Int) (b:List G159):Option ((Int×(List G159))⊕List G159):=some (.inl ((wi (a+1)),b))
def LF140_3_50 (c:G100) (f:Int) (k:Int) (e:Int) (j:G27) (i:Int) (a:Int) (b:List G159):Option ((Int×(List G159))⊕List G159):=bif (decide (a<(ln c.fg)))then ((gx (Sl.es c.fg) a).bind λd=>(F150_1 4 0 f k e a 0 d j i b).bind λh=>(Yf h d.fID j i b).bind λg=>some (.inl ((wi (a+1)),g)))else (some (.inr b))
def LF140_3_37 (b:G95) (f:Int) (k:Int) (j:G27) (i:Int) (a:Int) (c:List G159):Option ((Int×(List G159))⊕List G159):=bif (decide (a<(ln b.fh)))then ((gx (Sl.es b.fh) a).bind λe=>(Xg (λ((g,h):Int×(List G159))=>LF140_3_50 e f k a j i g h) (0,c)).bind λd=>match d with|v45=>Qk a v45)else (some (.inr c))
def LF140_3_24 (b:G75) (j:Int) (i:G27) (h:Int) (a:Int) (c:List G159):Option ((Int×(List G159))⊕List G159):=bif (decide (a<(ln b.ff)))then ((gx (Sl.es b.ff) a).bind λd=>(Xg (λ((e,f):Int×(List G159))=>LF140_3_37 d a j i h e f) (0,c)).bind λg=>match g with|v32=>Ql a v32)else (some (.inr c))
def LF140_3_11 (f:G27) (h:Int) (a:Int) (g:List G159):Option ((Int×(List G159))⊕List G159):=bif (decide (a<(ln f.fc)))then ((gx (Sl.es f.fc) a).bind λd=>(Xg (λ((b,e):Int×(List G159))=>LF140_3_24 d a f h b e) (0,g)).bind λc=>match c with|v19=>Qm a v19)else (some (.inr g))
def F140_3 (e:G27) (a:Int) (c:List G159):Option (List G159):=(Xg (λ((f,b):Int×(List G159))=>LF140_3_11 e a f b) (0,c)).bind λd=>match d with|v6=>some v6
def F69_1 (b:G27) (a:Int) (d:List G159):Option (List G159):=(F140_3 b a d).bind λc=>some c
def F230 (b:G147) (a:Int):Option Bool:=bif (decide (a>=(ln b.fv)))then (some true)else ((gx (Sl.es b.fv) a).bind λc=>some ((c.fP==(ByteArray.mk #[]))&&((c.faq==0)&&true)))
def JF155_1_16 (g:(GM G236 Bool)) (h:ByteArray) (c:Int) (f:Int) (e:Int) (d:Int) (b:Int) (a:Int):Option (GM G236 Bool):=bif (c==1)then (some (gmPut keq236 g (⟨f,0,e,d,b,a,0⟩:G236) true))else (some g)
def JF155_1_49 (e:Int) (b:(GM G236 Bool)) (h:ByteArray) (c:Int) (d:Int) (f:Int) (g:Int) (a:Int) (i:Int):Option ((Int×(GM G236 Bool)×ByteArray×Int×Int×Int×Int×Int×Int)⊕((GM G236 Bool)×ByteArray×Int×Int×Int×Int×Int×Int)):=some (.inl ((wi (e+1)),b,h,c,d,f,g,a,i))
def JF155_1_90 (f:Int) (e:(GM G236 Bool)) (g:ByteArray) (h:Int) (b:Int) (c:Int) (a:Int) (d:Int) (i:Int):Option ((Int×(GM G236 Bool)×ByteArray×Int×Int×Int×Int×Int×Int)⊕((GM G236 Bool)×ByteArray×Int×Int×Int×Int×Int×Int)):=some (.inl ((wi (f+1)),e,g,h,b,c,a,d,i))
def Qz (b:Int) (c:G171) (f:Int) (d:Int) (e:Int) (a:(GM G236 Bool)):Option ((Int×(GM G236 Bool)×ByteArray×Int×Int×Int×Int×Int×Int)⊕((GM G236 Bool)×ByteArray×Int×Int×Int×Int×Int×Int)):=JF155_1_90 b a c.fP c.faq 4 f d e b
def Vz (a:Int) (e:G171) (g:Int) (b:Int) (f:Int) (d:(GM G236 Bool)) (c:Bool):Option ((Int×(GM G236 Bool)×ByteArray×Int×Int×Int×Int×Int×Int)⊕((GM G236 Bool)×ByteArray×Int×Int×Int×Int×Int×Int)):=bif c then (Qz a e g b f (gmPut keq236 d (⟨4,0,g,b,f,a,0⟩:G236) true))else (Qz a e g b f d)
def JF155_1_99 (a:G171) (c:Int) (f:Int) (d:Int) (e:Int) (g:Int) (b:(GM G236 Bool)):Option ((Int×(GM G236 Bool)×ByteArray×Int×Int×Int×Int×Int×Int)⊕((GM G236 Bool)×ByteArray×Int×Int×Int×Int×Int×Int)):=bif (ByteArray.toList a.fP==ByteArray.toList (ByteArray.mk #[]))then (bif (a.faq==2)then (Vz c a f d e b (g !=2))else (Vz c a f d e b false))else (Vz c a f d e b false)
def Qy (f:G171) (b:Int) (m:Int) (c:Int) (l:Int) (e:Int) (a:(GM G236 Bool)) (j:Int) (h:Int) (i:Int) (g:Int) (k:Int) (d:Bool):Option ((Int×(GM G236 Bool)×ByteArray×Int×Int×Int×Int×Int×Int)⊕((GM G236 Bool)×ByteArray×Int×Int×Int×Int×Int×Int)):=bif d then (JF155_1_99 f b m c l e (gmPut keq236 a (⟨j,0,h,i,g,k,0⟩:G236) true))else (JF155_1_99 f b m c l e a)
def LF155_1_80 (m:G100) (o:Int) (p:Int) (l:Int) (q:Int) (a:Int) (e:(GM G236 Bool)) (k:ByteArray) (b:Int) (f:Int) (d:Int) (h:Int) (c:Int) (g:Int):Option ((Int×(GM G236 Bool)×ByteArray×Int×Int×Int×Int×Int×Int)⊕((GM G236 Bool)×ByteArray×Int×Int×Int×Int×Int×Int)):=bif (decide (a<(ln m.fg)))then ((gx (Sl.es m.fg) a).bind λj=>(F230 j o).bind λn=>bif n then (JF155_1_90 a e k b f d h c g)else ((gx (Sl.es j.fv) o).bind λi=>bif (b==1)then (Qy i a p l q b e f d h c g (ByteArray.toList i.fP==ByteArray.toList (ByteArray.mk #[])))else (Qy i a p l q b e f d h c g false)))else (some (.inr (e,k,b,f,d,h,c,g)))
def JF155_1_53 (a:Int) (h:(GM G236 Bool)) (d:ByteArray) (i:Int) (c:Int) (e:Int) (g:Int) (f:Int) (b:Int) (j:G75) (E:Int) (F:Int) (G:Int) (l:Bool):Option ((Int×(GM G236 Bool)×ByteArray×Int×Int×Int×Int×Int×Int)⊕((GM G236 Bool)×ByteArray×Int×Int×Int×Int×Int×Int)):=bif l then (JF155_1_49 a h d i c e g f b)else ((gx (Sl.es j.ff) E).bind λD=>(gx (Sl.es D.fh) F).bind λt=>(Xg (λ((z,k,n,C,p,x,v,w,A):Int×(GM G236 Bool)×ByteArray×Int×Int×Int×Int×Int×Int)=>LF155_1_80 t G E a F z k n C p x v w A) (0,h,d,i,c,e,g,f,b)).bind λ(u,o,y,B,m,r,q,s)=>JF155_1_49 a u o y B m r q s)
def LF155_1_39 (o:G27) (l:Int) (m:Int) (n:Int) (b:Int) (f:(GM G236 Bool)) (g:ByteArray) (j:Int) (e:Int) (i:Int) (c:Int) (h:Int) (d:Int):Option ((Int×(GM G236 Bool)×ByteArray×Int×Int×Int×Int×Int×Int)⊕((GM G236 Bool)×ByteArray×Int×Int×Int×Int×Int×Int)):=bif (decide (b<(ln o.fc)))then ((gx (Sl.es o.fc) b).bind λa=>bif (decide (l>=(ln a.ff)))then (JF155_1_53 b f g j e i c h d a l m n true)else ((gx (Sl.es a.ff) l).bind λk=>JF155_1_53 b f g j e i c h d a l m n (decide (m>=(ln k.fh)))))else (some (.inr (f,g,j,e,i,c,h,d)))
def F155_1 (t:Int) (u:Int) (s:Int) (v:G27) (x:Int) (w:List G159) (r:(GM G236 Bool)):Option (GM G236 Bool):=(Xg (λ((m,n,g,q,e,h,k,p,c):Int×(GM G236 Bool)×ByteArray×Int×Int×Int×Int×Int×Int)=>LF155_1_39 v t u s m n g q e h k p c) (0,r,ByteArray.mk #[],0,0,0,0,0,0)).bind λ(f,a,l,j,d,i,b,o)=>JF155_1_16 f a l j d i b o
def F156_1 (g:Int) (f:Int) (d:Int) (h:Int) (i:Int) (b:Int) (a:Int) (j:G147) (c:(GM G236 Bool)):Option Bool:=(gmGet keq236 c (⟨g,f,d,h,i,b,a⟩:G236) false).bind λe=>some e
def Qj (b:Int) (a:List G159):Option ((Int×(List G159))⊕List G159):=some (.inl ((wi (b+1)),a))
def Qi (b:Int) (a:List G159):Option ((Int×(List G159))⊕List G159):=some (.inl ((wi (b+1)),a))
def Qh (b:Int) (a:List G159):Option ((Int×(List G159))⊕List G159):=some (.inl ((wi (b+1)),a))
def LF140_4_51 (c:G100) (h:Int) (i:Int) (g:Int) (j:(GM G236 Bool)) (l:G27) (k:Int) (a:Int) (b:List G159):Option ((Int×(List G159))⊕List G159):=bif (decide (a<(ln c.fg)))then ((gx (Sl.es c.fg) a).bind λd=>(F156_1 4 0 h i g a 0 d j).bind λf=>(Yf f d.fID l k b).bind λe=>some (.inl ((wi (a+1)),e)))else (some (.inr b))
def LF140_4_38 (b:G95) (e:Int) (i:Int) (j:(GM G236 Bool)) (l:G27) (k:Int) (a:Int) (c:List G159):Option ((Int×(List G159))⊕List G159):=bif (decide (a<(ln b.fh)))then ((gx (Sl.es b.fh) a).bind λg=>(Xg (λ((d,f):Int×(List G159))=>LF140_4_51 g e i a j l k d f) (0,c)).bind λh=>match h with|v46=>Qh a v46)else (some (.inr c))
def LF140_4_25 (b:G75) (h:Int) (k:(GM G236 Bool)) (j:G27) (i:Int) (a:Int) (c:List G159):Option ((Int×(List G159))⊕List G159):=bif (decide (a<(ln b.ff)))then ((gx (Sl.es b.ff) a).bind λe=>(Xg (λ((d,g):Int×(List G159))=>LF140_4_38 e a h k j i d g) (0,c)).bind λf=>match f with|v33=>Qi a v33)else (some (.inr c))
def LF140_4_12 (f:G27) (h:(GM G236 Bool)) (i:Int) (a:Int) (g:List G159):Option ((Int×(List G159))⊕List G159):=bif (decide (a<(ln f.fc)))then ((gx (Sl.es f.fc) a).bind λd=>(Xg (λ((c,e):Int×(List G159))=>LF140_4_25 d a h f i c e) (0,g)).bind λb=>match b with|v20=>Qj a v20)else (some (.inr g))
def F140_4 (g:G27) (a:Int) (d:List G159) (f:(GM G236 Bool)):Option (List G159):=(Xg (λ((c,b):Int×(List G159))=>LF140_4_12 g f a c b) (0,d)).bind λe=>match e with|v7=>some v7
def JF70_1_7 (e:G27) (b:Int) (d:List G159) (c:(GM G236 Bool)):Option (List G159):=(F140_4 e b d c).bind λa=>some a
def JF70_1_24 (a:Int) (b:(GM G236 Bool)):Option ((Int×(GM G236 Bool))⊕GM G236 Bool):=some (.inl ((wi (a+1)),b))
def JF70_1_35 (a:Int) (b:(GM G236 Bool)):Option ((Int×(GM G236 Bool))⊕GM G236 Bool):=some (.inl ((wi (a+1)),b))
def LF70_1_43 (d:Int) (e:Int) (h:G27) (g:Int) (f:List G159) (a:Int) (b:(GM G236 Bool)):Option ((Int×(GM G236 Bool))⊕GM G236 Bool):=bif (decide (a<4))then ((F155_1 d e a h g f b).bind λc=>some (.inl ((wi (a+1)),c)))else (some (.inr b))
def LF70_1_32 (e:Int) (i:G27) (h:Int) (g:List G159) (a:Int) (b:(GM G236 Bool)):Option ((Int×(GM G236 Bool))⊕GM G236 Bool):=bif (decide (a<2))then ((Xg (λ((f,d):Int×(GM G236 Bool))=>LF70_1_43 e a i h g f d) (0,b)).bind λc=>match c with|v38=>JF70_1_35 a v38)else (some (.inr b))
def LF70_1_21 (i:Int) (h:G27) (g:Int) (f:List G159) (a:Int) (b:(GM G236 Bool)):Option ((Int×(GM G236 Bool))⊕GM G236 Bool):=bif (decide (a<i))then ((Xg (λ((d,c):Int×(GM G236 Bool))=>LF70_1_32 a h g f d c) (0,b)).bind λe=>match e with|v27=>JF70_1_24 a v27)else (some (.inr b))
def F70_1 (d:G27) (e:Int) (f:List G159):Option (List G159):=(F130 d).bind λg=>(Xg (λ((a,c):Int×(GM G236 Bool))=>LF70_1_21 g d e f a c) (0,⟨[],[],0⟩)).bind λb=>match b with|v16=>JF70_1_7 d e f v16
def Vy (m:Int) (o:Int) (l:Int) (p:Int) (q:Int) (n:Int) (k:Int) (j:G58) (r:G27) (i:G58) (b:Int) (h:Int) (d:Int) (c:Int) (a:Int) (g:Int) (e:Int) (f:Bool):Option (Int×Int×Int×Int×Int×Int×Int×Bool×Bool):=bif ((j.fM==i.fM)&&((j.fU==i.fU)&&true))then (some (m,o,l,p,q,n,k,true,true))else (some (b,h,d,c,a,g,e,f,false))
def LF276_2_66 (l:G27) (m:G58) (b:Int) (e:Int) (i:Int) (c:Int) (d:Int) (j:Int) (f:Int) (g:Int) (h:Bool):Option ((Int×Int×Int×Int×Int×Int×Int×Int×Bool)⊕((Int×Int×Int×Int×Int×Int×Int×Bool)⊕(Int×Int×Int×Int×Int×Int×Int×Bool))):=bif (decide (b<(ln l.fp)))then ((gx (Sl.es l.fp) b).bind λk=>(Vy 5 0 0 0 0 0 b k.fID l m e i c d j f g h).bind λa=>bif a.2.2.2.2.2.2.2.2 then (some (.inr (.inl (a.1,a.2.1,a.2.2.1,a.2.2.2.1,a.2.2.2.2.1,a.2.2.2.2.2.1,a.2.2.2.2.2.2.1,a.2.2.2.2.2.2.2.1))))else (some (.inl ((wi (b+1)),a.1,a.2.1,a.2.2.1,a.2.2.2.1,a.2.2.2.2.1,a.2.2.2.2.2.1,a.2.2.2.2.2.2.1,a.2.2.2.2.2.2.2.1))))else (some (.inr (.inr (e,i,c,d,j,f,g,h))))
def JF276_2_36 (s:G27) (t:G58) (a:Int) (l:Int) (i:Int) (d:Int) (g:Int) (r:Int) (p:Int) (e:Bool):Option (Int×Int×Int×Int×Int×Int×Int×Bool×Bool):=(Xg (λ((c,j,o,f,b,q,k,m,n):Int×Int×Int×Int×Int×Int×Int×Int×Bool)=>LF276_2_66 s t c j o f b q k m n) (0,a,l,i,d,g,r,p,e)).bind λh=>match h with|(.inl (v46,v47,v48,v49,v50,v51,v52,v53))=>some (v46,v47,v48,v49,v50,v51,v52,v53,true)|(.inr (v54,v55,v56,v57,v58,v59,v60,v61))=>some (v54,v55,v56,v57,v58,v59,v60,v61,false)
def JF276_2_130 (i:Int) (h:Int) (d:Int) (a:Int) (f:Int) (b:Int) (g:Int) (c:Int) (e:Bool):Option ((Int×Int×Int×Int×Int×Int×Int×Int×Bool)⊕((Int×Int×Int×Int×Int×Int×Int×Bool)⊕(Int×Int×Int×Int×Int×Int×Int×Bool))):=some (.inl ((wi (i+1)),h,d,a,f,b,g,c,e))
def JF276_2_195 (g:Int) (a:Int) (f:Int) (i:Int) (c:Int) (b:Int) (e:Int) (h:Int) (d:Bool):Option ((Int×Int×Int×Int×Int×Int×Int×Int×Bool)⊕((Int×Int×Int×Int×Int×Int×Int×Bool)⊕(Int×Int×Int×Int×Int×Int×Int×Bool))):=some (.inl ((wi (g+1)),a,f,i,c,b,e,h,d))
def JF276_2_239 (a:Int) (e:Int) (f:Int) (i:Int) (g:Int) (b:Int) (c:Int) (h:Int) (d:Bool):Option ((Int×Int×Int×Int×Int×Int×Int×Int×Bool)⊕((Int×Int×Int×Int×Int×Int×Int×Bool)⊕(Int×Int×Int×Int×Int×Int×Int×Bool))):=some (.inl ((wi (a+1)),e,f,i,g,b,c,h,d))
def LF276_2_275 (r:G100) (s:G27) (m:Int) (l:Int) (d:Int) (t:G58) (b:Int) (i:Int) (c:Int) (j:Int) (g:Int) (h:Int) (f:Int) (k:Int) (e:Bool):Option ((Int×Int×Int×Int×Int×Int×Int×Int×Bool)⊕((Int×Int×Int×Int×Int×Int×Int×Bool)⊕(Int×Int×Int×Int×Int×Int×Int×Bool))):=bif (decide (b<(ln r.fg)))then ((gx (Sl.es s.fc) m).bind λp=>(gx (Sl.es p.ff) l).bind λn=>(gx (Sl.es n.fh) d).bind λq=>(gx (Sl.es q.fg) b).bind λo=>(Vy 4 0 l m d b 0 o.fID s t i c j g h f k e).bind λa=>bif a.2.2.2.2.2.2.2.2 then (some (.inr (.inl (a.1,a.2.1,a.2.2.1,a.2.2.2.1,a.2.2.2.2.1,a.2.2.2.2.2.1,a.2.2.2.2.2.2.1,a.2.2.2.2.2.2.2.1))))else (some (.inl ((wi (b+1)),a.1,a.2.1,a.2.2.1,a.2.2.2.1,a.2.2.2.2.1,a.2.2.2.2.2.1,a.2.2.2.2.2.2.1,a.2.2.2.2.2.2.2.1))))else (some (.inr (.inr (i,c,j,g,h,f,k,e))))
def LF276_2_229 (r:G95) (z:G27) (l:Int) (j:Int) (A:G58) (a:Int) (b:Int) (h:Int) (c:Int) (d:Int) (f:Int) (g:Int) (e:Int) (i:Bool):Option ((Int×Int×Int×Int×Int×Int×Int×Int×Bool)⊕((Int×Int×Int×Int×Int×Int×Int×Bool)⊕(Int×Int×Int×Int×Int×Int×Int×Bool))):=bif (decide (a<(ln r.fh)))then ((gx (Sl.es z.fc) l).bind λo=>(gx (Sl.es o.ff) j).bind λs=>(gx (Sl.es s.fh) a).bind λm=>(Xg (λ((p,v,k,w,t,u,q,y,n):Int×Int×Int×Int×Int×Int×Int×Int×Bool)=>LF276_2_275 m z l j a A p v k w t u q y n) (0,b,h,c,d,f,g,e,i)).bind λx=>match x with|(.inl (v255,v256,v257,v258,v259,v260,v261,v262))=>some (.inr (.inl (v255,v256,v257,v258,v259,v260,v261,v262)))|(.inr (v263,v264,v265,v266,v267,v268,v269,v270))=>JF276_2_239 a v263 v264 v265 v266 v267 v268 v269 v270)else (some (.inr (.inr (b,h,c,d,f,g,e,i))))
def LF276_2_185 (o:G75) (x:G27) (k:Int) (y:G58) (a:Int) (d:Int) (c:Int) (e:Int) (b:Int) (h:Int) (i:Int) (g:Int) (f:Bool):Option ((Int×Int×Int×Int×Int×Int×Int×Int×Bool)⊕((Int×Int×Int×Int×Int×Int×Int×Bool)⊕(Int×Int×Int×Int×Int×Int×Int×Bool))):=bif (decide (a<(ln o.ff)))then ((gx (Sl.es x.fc) k).bind λl=>(gx (Sl.es l.ff) a).bind λq=>(Xg (λ((j,m,u,n,p,s,t,r,v):Int×Int×Int×Int×Int×Int×Int×Int×Bool)=>LF276_2_229 q x k a y j m u n p s t r v) (0,d,c,e,b,h,i,g,f)).bind λw=>match w with|(.inl (v209,v210,v211,v212,v213,v214,v215,v216))=>some (.inr (.inl (v209,v210,v211,v212,v213,v214,v215,v216)))|(.inr (v217,v218,v219,v220,v221,v222,v223,v224))=>JF276_2_195 a v217 v218 v219 v220 v221 v222 v223 v224)else (some (.inr (.inr (d,c,e,b,h,i,g,f))))
def LF276_2_120 (k:G27) (x:G58) (b:Int) (m:Int) (o:Int) (n:Int) (h:Int) (v:Int) (j:Int) (q:Int) (e:Bool):Option ((Int×Int×Int×Int×Int×Int×Int×Int×Bool)⊕((Int×Int×Int×Int×Int×Int×Int×Bool)⊕(Int×Int×Int×Int×Int×Int×Int×Bool))):=bif (decide (b<(ln k.fc)))then ((gx (Sl.es k.fc) b).bind λt=>(Vy 3 0 0 b 0 0 0 t.fID k x m o n h v j q e).bind λa=>bif a.2.2.2.2.2.2.2.2 then (some (.inr (.inl (a.1,a.2.1,a.2.2.1,a.2.2.2.1,a.2.2.2.2.1,a.2.2.2.2.2.1,a.2.2.2.2.2.2.1,a.2.2.2.2.2.2.2.1))))else ((gx (Sl.es k.fc) b).bind λf=>(Xg (λ((u,g,d,i,c,s,w,r,p):Int×Int×Int×Int×Int×Int×Int×Int×Bool)=>LF276_2_185 f k b x u g d i c s w r p) (0,a.1,a.2.1,a.2.2.1,a.2.2.2.1,a.2.2.2.2.1,a.2.2.2.2.2.1,a.2.2.2.2.2.2.1,a.2.2.2.2.2.2.2.1)).bind λl=>match l with|(.inl (v165,v166,v167,v168,v169,v170,v171,v172))=>some (.inr (.inl (v165,v166,v167,v168,v169,v170,v171,v172)))|(.inr (v173,v174,v175,v176,v177,v178,v179,v180))=>JF276_2_130 b v173 v174 v175 v176 v177 v178 v179 v180))else (some (.inr (.inr (m,o,n,h,v,j,q,e))))
def JF276_2_27 (s:G27) (t:G58) (n:Int) (f:Int) (r:Int) (e:Int) (i:Int) (j:Int) (p:Int) (c:Bool):Option (Int×Int×Int×Int×Int×Int×Int×Bool×Bool):=(Xg (λ((b,k,m,l,g,q,h,o,d):Int×Int×Int×Int×Int×Int×Int×Int×Bool)=>LF276_2_120 s t b k m l g q h o d) (0,n,f,r,e,i,j,p,c)).bind λa=>match a with|(.inl (v100,v101,v102,v103,v104,v105,v106,v107))=>some (v100,v101,v102,v103,v104,v105,v106,v107,true)|(.inr (v108,v109,v110,v111,v112,v113,v114,v115))=>JF276_2_36 s t v108 v109 v110 v111 v112 v113 v114 v115
def JF276_2_347 (h:Int) (b:Int) (a:Int) (c:Int) (e:Int) (d:Int) (j:Int) (i:Int) (f:Int) (g:Bool):Option ((Int×Int×Int×Int×Int×Int×Int×Int×Int×Bool)⊕((Int×Int×Int×Int×Int×Int×Int×Bool)⊕(Int×Int×Int×Int×Int×Int×Int×Bool))):=some (.inl (b,wi (h+1),a,c,e,d,j,i,f,g))
def LF276_2_404 (m:G68) (p:G27) (l:Int) (q:G58) (c:Int) (b:Int) (k:Int) (e:Int) (j:Int) (d:Int) (g:Int) (f:Int) (h:Int) (i:Bool):Option ((Int×Int×Int×Int×Int×Int×Int×Int×Int×Bool)⊕((Int×Int×Int×Int×Int×Int×Int×Bool)⊕(Int×Int×Int×Int×Int×Int×Int×Int×Bool))):=bif (decide (b<(ln m.fx)))then ((gx (Sl.es p.fi) l).bind λo=>(gx (Sl.es o.fx) b).bind λn=>(Vy 2 0 c 0 0 0 0 n.fID p q k e j d g f h i).bind λa=>bif a.2.2.2.2.2.2.2.2 then (some (.inr (.inl (a.1,a.2.1,a.2.2.1,a.2.2.2.1,a.2.2.2.2.1,a.2.2.2.2.2.1,a.2.2.2.2.2.2.1,a.2.2.2.2.2.2.2.1))))else (some (.inl ((wi (c+1)),wi (b+1),a.1,a.2.1,a.2.2.1,a.2.2.2.1,a.2.2.2.2.1,a.2.2.2.2.2.1,a.2.2.2.2.2.2.1,a.2.2.2.2.2.2.2.1))))else (some (.inr (.inr (c,k,e,j,d,g,f,h,i))))
def LF276_2_336 (r:G27) (z:G58) (n:Int) (b:Int) (c:Int) (d:Int) (g:Int) (i:Int) (j:Int) (h:Int) (e:Int) (f:Bool):Option ((Int×Int×Int×Int×Int×Int×Int×Int×Int×Bool)⊕((Int×Int×Int×Int×Int×Int×Int×Bool)⊕(Int×Int×Int×Int×Int×Int×Int×Bool))):=bif (decide (b<(ln r.fi)))then ((gx (Sl.es r.fi) b).bind λm=>(Vy 1 b 0 0 0 0 0 m.fID r z c d g i j h e f).bind λa=>bif a.2.2.2.2.2.2.2.2 then (some (.inr (.inl (a.1,a.2.1,a.2.2.1,a.2.2.2.1,a.2.2.2.2.1,a.2.2.2.2.2.1,a.2.2.2.2.2.2.1,a.2.2.2.2.2.2.2.1))))else ((gx (Sl.es r.fi) b).bind λw=>(Xg (λ((y,q,v,l,x,k,p,o,s,u):Int×Int×Int×Int×Int×Int×Int×Int×Int×Bool)=>LF276_2_404 w r b z y q v l x k p o s u) (n,0,a.1,a.2.1,a.2.2.1,a.2.2.2.1,a.2.2.2.2.1,a.2.2.2.2.2.1,a.2.2.2.2.2.2.1,a.2.2.2.2.2.2.2.1)).bind λt=>match t with|(.inl (v383,v384,v385,v386,v387,v388,v389,v390))=>some (.inr (.inl (v383,v384,v385,v386,v387,v388,v389,v390)))|(.inr (v391,v392,v393,v394,v395,v396,v397,v398,v399))=>JF276_2_347 b v391 v392 v393 v394 v395 v396 v397 v398 v399))else (some (.inr (.inr (c,d,g,i,j,h,e,f))))
def F276_2 (l:G27) (m:G58) (p:Int) (u:Int) (o:Int) (r:Int) (n:Int) (s:Int) (t:Int) (q:Bool):Option (Int×Int×Int×Int×Int×Int×Int×Bool×Bool):=(Xg (λ((c,d,a,b,h,j,k,i,e,g):Int×Int×Int×Int×Int×Int×Int×Int×Int×Bool)=>LF276_2_336 l m c d a b h j k i e g) (0,0,p,u,o,r,n,s,t,q)).bind λf=>match f with|(.inl (v316,v317,v318,v319,v320,v321,v322,v323))=>some (v316,v317,v318,v319,v320,v321,v322,v323,true)|(.inr (v324,v325,v326,v327,v328,v329,v330,v331))=>JF276_2_27 l m v324 v325 v326 v327 v328 v329 v330 v331
def JF291_11 (g:Int) (h:Int) (e:Int) (c:Int) (b:Int) (d:Int) (f:Int) (a:Bool):Option (G236×Bool):=some ((⟨0,0,0,0,0,0,0⟩:G236),false)
def F291 (c:G27) (b:G58):Option (G236×Bool):=bif ((b.fM==0)&&((b.fU==0)&&true))then (some ((⟨0,0,0,0,0,0,0⟩:G236),false))else ((F276_2 c b 0 0 0 0 0 0 0 false).bind λa=>bif a.2.2.2.2.2.2.2.2 then (some ((⟨a.1,a.2.1,a.2.2.1,a.2.2.2.1,a.2.2.2.2.1,a.2.2.2.2.2.1,a.2.2.2.2.2.2.1⟩:G236),a.2.2.2.2.2.2.2.1))else (JF291_11 a.1 a.2.1 a.2.2.1 a.2.2.2.1 a.2.2.2.2.1 a.2.2.2.2.2.1 a.2.2.2.2.2.2.1 a.2.2.2.2.2.2.2.1))
def JF189_4:Option (Sl Int):=some (Sl.no ([]:List Int))
def LF189_10 (a:Sl Int) (b:Int):Option (Int⊕Unit):=bif (decide (b<(ln a)))then (none)else (some (.inr ()))
def JF189_13 (b:Nat) (a:List Int):Option (Sl Int):=(gfz b a).bind λ(_:Unit)=>some (Sl.no a)
def LF189_21 (g:Sl Int) (f:Nat) (a:Int) (b:List Int):Option ((Int×(List Int))⊕List Int):=bif (decide (a<(ln g)))then ((gin (wi (a-(1))) f).bind λi=>(gx b (wi (a-(1)))).bind λe=>(gx (Sl.es g) (wi (a-(1)))).bind λd=>(gin a f).bind λh=>(gset b a (wi (e+d))).bind λc=>some (.inl ((wi (a+1)),c)))else (some (.inr b))
def F189 (a:Sl Int):Option (Sl Int):=bif ((ln a)==0)then ((Xg (λ(g:Int)=>LF189_10 a g) 1).bind λf=>match f with|()=>JF189_4)else ((gmk 8 (ln a)).bind λd=>(Xg (λ((b,e):Int×(List Int))=>LF189_21 a d b e) (1,List.replicate d (0:Int))).bind λc=>match c with|v16=>JF189_13 d v16)
def F100 (c:G100) (b:Int):Option ((Sl Int)×Int):=(F188 c b).bind λa=>bif (a.2 !=0)then (some (Sl.nil,a.2))else ((F189 a.1).bind λd=>some (d,0))
def JF231_1_7 (i:G27) (a:G236×Bool) (h:Bool):Option (G261×Bool):=bif h then (some ((⟨0,0,0,0⟩:G261),false))else ((gx (Sl.es i.fc) a.1.fo).bind λg=>(F99 g).bind λe=>(gx (Sl.es g.ff) a.1.fC).bind λd=>(gx (Sl.es d.fh) a.1.fB).bind λc=>(F100 c e.1).bind λb=>bif (decide (a.1.f9>=(ln b.1)))then (some ((⟨0,0,0,0⟩:G261),false))else ((gx (Sl.es b.1) a.1.f9).bind λf=>some ((⟨a.1.fo,f,a.1.fC,a.1.fB⟩:G261),true)))
def F231_1 (c:G58) (b:G27) (d:Int) (e:List G159):Option (G261×Bool):=(F291 b c).bind λa=>bif (!a.2)then (JF231_1_7 b a true)else (JF231_1_7 b a (a.1.fq !=4))
def F315 (a:Int) (b:Int):Option Bool:=bif (decide (a>=0))then (some (decide (a<=b)))else (some false)
def F292 (a:G261):Option Bool:=(F315 a.fo 1023).bind λc=>bif c then ((F315 a.fAt 4398046511104).bind λe=>bif e then ((F315 a.fC 127).bind λd=>bif d then ((F315 a.fB 1).bind λb=>some b)else (some false))else (some false))else (some false)
def F293 (a:Int):Option Bool:=bif (a==1)then (some true)else (some (a==7))
def F199 (a:Int):Option Bool:=some (a !=a)
def F116 (b:Int) (a:Int):Option Int:=(F199 b).bind λd=>(F199 a).bind λc=>bif d then (bif c then (some 0)else (some (-1)))else (bif c then (some 1)else (bif (decide (b<a))then (some (-1))else (bif (decide (b>a))then (some 1)else (some 0))))
def JF115_1:Option Int:=some 0
def LF115_8 (c:Sl Int) (b:Int):Option (Int⊕Int⊕Unit):=bif (decide (b<(ln c)))then ((gx (Sl.es c) b).bind λa=>bif (a !=0)then (some (.inr (.inl a)))else (some (.inl (wi (b+1)))))else (some (.inr (.inr ())))
def F115 (b:Sl Int):Option Int:=(Xg (λ(c:Int)=>LF115_8 b c) 0).bind λa=>match a with|(.inl v3)=>some v3|(.inr ())=>JF115_1
def F294 (b:G261) (a:G261):Option Int:=(F116 b.fo a.fo).bind λd=>(F116 b.fAt a.fAt).bind λe=>(F115 (Sl.full [d,e])).bind λc=>some c
def JF232_8 (b:G263) (c:Bool):Option Int:=bif c then (some 23)else ((F294 b.fj b.fTo).bind λa=>bif (decide (a>=0))then (some 25)else (some 0))
def JF232_5 (a:G263) (c:Bool):Option Int:=bif c then (some 2)else (bif (a.fj.fC !=a.fTo.fC)then (JF232_8 a true)else ((F293 a.fq).bind λb=>bif b then (JF232_8 a (a.fj.fB !=a.fTo.fB))else (JF232_8 a false)))
def JF232_2 (a:G263) (d:Bool):Option Int:=bif d then (some 11)else ((F292 a.fj).bind λb=>bif (!b)then (JF232_5 a true)else ((F292 a.fTo).bind λc=>JF232_5 a (!c)))
def F232 (a:G263):Option Int:=bif (decide (a.fq<1))then (JF232_2 a true)else (JF232_2 a (decide (a.fq>7)))
def JF157_1_5 (a:List G263) (b:List Bool):Option ((Sl G263)×(Sl Bool)):=some ((mkSl a),mkSl b)
def LF157_1_15 (g:G27) (n:Int) (l:List G159) (m:List G263) (f:List Bool) (e:Int):Option (((List G263)×(List Bool)×Int)⊕((List G263)×(List Bool))):=bif (decide (e<(ln g.fp)))then ((gx (Sl.es g.fp) e).bind λc=>(F231_1 c.fj g n l).bind λb=>(F231_1 c.fTo g n l).bind λa=>(gapp 72 m (Sl.es (Sl.full [(⟨c.fq,(⟨b.1.fo,b.1.fAt,b.1.fC,b.1.fB⟩:G261),(⟨a.1.fo,a.1.fAt,a.1.fC,a.1.fB⟩:G261)⟩:G263)]))).bind λd=>bif (!b.2)then ((gapp 1 f (Sl.es (Sl.full [true]))).bind λk=>some (.inl (d,k,wi (e+1))))else (bif (!a.2)then ((gapp 1 f (Sl.es (Sl.full [true]))).bind λi=>some (.inl (d,i,wi (e+1))))else ((F232 (⟨c.fq,(⟨b.1.fo,b.1.fAt,b.1.fC,b.1.fB⟩:G261),(⟨a.1.fo,a.1.fAt,a.1.fC,a.1.fB⟩:G261)⟩:G263)).bind λj=>(gapp 1 f (Sl.es (Sl.full [j !=0]))).bind λh=>some (.inl (d,h,wi (e+1))))))else (some (.inr (m,f)))
def F157_1 (h:G27) (g:Int) (e:List G159):Option ((Sl G263)×(Sl Bool)):=(Xg (λ((b,c,d):(List G263)×(List Bool)×Int)=>LF157_1_15 h g e b c d) ([],[],0)).bind λ(f,a)=>JF157_1_5 f a
def LF71_1_16 (f:G27) (g:(Sl G263)×(Sl Bool)) (h:Int) (b:Int) (a:List G159):Option ((Int×(List G159))⊕List G159):=bif (decide (b<(ln f.fp)))then ((gx (Sl.es f.fp) b).bind λc=>(gx (Sl.es g.2) b).bind λe=>(Yf e c.fID f h a).bind λd=>some (.inl ((wi (b+1)),d)))else (some (.inr a))
def F71_1 (e:G27) (c:Int) (d:List G159):Option (List G159):=(F157_1 e c d).bind λf=>(Xg (λ((g,b):Int×(List G159))=>LF71_1_16 e f c g b) (0,d)).bind λa=>match a with|v11=>some v11
def JF295_2 (b:Int) (a:Bool):Option Int:=bif a then (some 0)else ((gx [1,2,2,4,4,6,7] (wi (b-(1)))).bind λc=>some c)
def F295 (a:Int):Option Int:=bif (decide (a<1))then (JF295_2 a true)else (JF295_2 a (decide (a>7)))
def F233 (a:G263) (b:G263):Option Bool:=(F295 a.fq).bind λf=>bif (decide (f>0))then ((F295 a.fq).bind λd=>(F295 b.fq).bind λe=>bif (d==e)then (bif (a.fj.fC==b.fj.fC)then ((F293 a.fq).bind λc=>bif (!c)then (some true)else (some (a.fj.fB==b.fj.fB)))else (some false))else (some false))else (some false)
def F235 (b:G263) (a:G263):Option Bool:=(F294 b.fTo a.fj).bind λc=>bif (decide (c<=0))then (some true)else ((F294 a.fTo b.fj).bind λd=>some (decide (d<=0)))
def F296 (b:G263) (a:G263):Option Bool:=(F294 b.fj a.fj).bind λc=>bif (decide (c>=0))then ((F294 b.fTo a.fTo).bind λd=>some (decide (d<=0)))else (some false)
def F238 (b:G263) (a:G263):Option Bool:=(F235 b a).bind λe=>bif (!e)then ((F296 b a).bind λd=>(F296 a b).bind λc=>some (d==c))else (some false)
def F234 (b:G263) (a:G263):Option Bool:=(F235 b a).bind λc=>some (!c)
def F237 (b:G263) (a:G263):Option Bool:=(F294 b.fTo a.fj).bind λc=>bif (decide (c<0))then (some true)else ((F294 a.fTo b.fj).bind λd=>some (decide (d<0)))
def F236 (b:G263) (a:G263):Option Bool:=(F237 b a).bind λc=>some (!c)
def F158 (a:G263) (b:G263):Option Bool:=(F233 a b).bind λi=>bif (!i)then (some false)else (bif ((wi (a.fq-(1)))==0)then ((F238 a b).bind λh=>some h)else (bif ((wi (a.fq-(1)))==1)then ((F234 a b).bind λj=>some j)else (bif ((wi (a.fq-(1)))==2)then ((F234 a b).bind λf=>some f)else (bif ((wi (a.fq-(1)))==3)then ((F236 a b).bind λd=>some d)else (bif ((wi (a.fq-(1)))==4)then ((F236 a b).bind λe=>some e)else (bif ((wi (a.fq-(1)))==5)then ((F234 a b).bind λg=>some g)else (bif ((wi (a.fq-(1)))==6)then ((F236 a b).bind λc=>some c)else (none))))))))
def JF72_1_19 (b:Int) (a:List G159):Option ((Int×(List G159))⊕List G159):=some (.inl ((wi (b+1)),a))
def JF72_1_23 (b:G213) (f:G27) (e:Int) (c:List G159) (g:Int) (d:Bool):Option ((Int×(List G159))⊕List G159):=(Yf d b.fID f e c).bind λa=>JF72_1_19 g a
def Un (c:(Sl G263)×(Sl Bool)) (a:Int) (i:Int) (d:Bool) (f:Bool):Option ((Bool×Int)⊕Bool):=bif f then ((gx (Sl.es c.2) a).bind λg=>bif (!g)then ((gx (Sl.es c.1) a).bind λe=>(gx (Sl.es c.1) i).bind λb=>(F158 e b).bind λh=>some (.inl (h,wi (a+1))))else (some (.inl (false,wi (a+1)))))else (some (.inr d))
def LF72_1_38 (c:Int) (d:(Sl G263)×(Sl Bool)) (a:Bool) (b:Int):Option ((Bool×Int)⊕Bool):=bif (decide (b<c))then ((gx (Sl.es d.2) c).bind λe=>bif (!e)then (Un d b c a (!a))else (Un d b c a false))else (Un d b c a false)
def LF72_1_16 (f:G27) (h:(Sl G263)×(Sl Bool)) (i:Int) (b:Int) (a:List G159):Option ((Int×(List G159))⊕List G159):=bif (decide (b<(ln f.fp)))then ((gx (Sl.es f.fp) b).bind λe=>(Xg (λ((c,g):Bool×Int)=>LF72_1_38 b h c g) (false,0)).bind λd=>match d with|v33=>JF72_1_23 e f i a b v33)else (some (.inr a))
def F72_1 (e:G27) (c:Int) (d:List G159):Option (List G159):=(F157_1 e c d).bind λf=>(Xg (λ((g,b):Int×(List G159))=>LF72_1_16 e f c g b) (0,d)).bind λa=>match a with|v11=>some v11
def F159 (e:Int) (a:G75):Option Bool:=bif (a.fX !=0)then ((F125 a.fX 2 8).bind λd=>bif (!d)then (some true)else ((F125 a.fy 0 255).bind λb=>some (!b)))else ((F125 a.fy 0 255).bind λc=>some (!c))
def LF131_6_11 (d:G27) (g:Int) (b:Int) (f:List G159):Option ((Int×(List G159))⊕List G159):=bif (decide (b<(ln d.fc)))then ((gx (Sl.es d.fc) b).bind λa=>(F159 b a).bind λc=>(Yf c a.fID d g f).bind λe=>some (.inl ((wi (b+1)),e)))else (some (.inr f))
def F131_6 (e:G27) (a:Int) (c:List G159):Option (List G159):=(Xg (λ((f,b):Int×(List G159))=>LF131_6_11 e a f b) (0,c)).bind λd=>match d with|v6=>some v6
def JF245_6 (b:Int) (c:Int):Option Int:=bif (decide (b>=256))then ((gch (ByteArray.mk #[0,1,2,2,3,3,3,3,4,4,4,4,4,4,4,4,5,5,5,5,5,5,5,5,5,5,5,5,5,5,5,5,6,6,6,6,6,6,6,6,6,6,6,6,6,6,6,6,6,6,6,6,6,6,6,6,6,6,6,6,6,6,6,6,7,7,7,7,7,7,7,7,7,7,7,7,7,7,7,7,7,7,7,7,7,7,7,7,7,7,7,7,7,7,7,7,7,7,7,7,7,7,7,7,7,7,7,7,7,7,7,7,7,7,7,7,7,7,7,7,7,7,7,7,7,7,7,7,8,8,8,8,8,8,8,8,8,8,8,8,8,8,8,8,8,8,8,8,8,8,8,8,8,8,8,8,8,8,8,8,8,8,8,8,8,8,8,8,8,8,8,8,8,8,8,8,8,8,8,8,8,8,8,8,8,8,8,8,8,8,8,8,8,8,8,8,8,8,8,8,8,8,8,8,8,8,8,8,8,8,8,8,8,8,8,8,8,8,8,8,8,8,8,8,8,8,8,8,8,8,8,8,8,8,8,8,8,8,8,8,8,8,8,8,8,8,8,8,8,8,8,8,8,8,8,8]) (IntKind.wrap .u8 (Int.fdiv b (2^8)))).bind λd=>some (wi ((wi (c+8))+(wi ((UInt8.toNat d:Nat):Int)))))else ((gch (ByteArray.mk #[0,1,2,2,3,3,3,3,4,4,4,4,4,4,4,4,5,5,5,5,5,5,5,5,5,5,5,5,5,5,5,5,6,6,6,6,6,6,6,6,6,6,6,6,6,6,6,6,6,6,6,6,6,6,6,6,6,6,6,6,6,6,6,6,7,7,7,7,7,7,7,7,7,7,7,7,7,7,7,7,7,7,7,7,7,7,7,7,7,7,7,7,7,7,7,7,7,7,7,7,7,7,7,7,7,7,7,7,7,7,7,7,7,7,7,7,7,7,7,7,7,7,7,7,7,7,7,7,8,8,8,8,8,8,8,8,8,8,8,8,8,8,8,8,8,8,8,8,8,8,8,8,8,8,8,8,8,8,8,8,8,8,8,8,8,8,8,8,8,8,8,8,8,8,8,8,8,8,8,8,8,8,8,8,8,8,8,8,8,8,8,8,8,8,8,8,8,8,8,8,8,8,8,8,8,8,8,8,8,8,8,8,8,8,8,8,8,8,8,8,8,8,8,8,8,8,8,8,8,8,8,8,8,8,8,8,8,8,8,8,8,8,8,8,8,8,8,8,8,8,8,8,8,8,8,8]) (IntKind.wrap .u8 b)).bind λa=>some (wi (c+(wi ((UInt8.toNat a:Nat):Int)))))
def JF245_3 (a:Int) (b:Int):Option Int:=bif (decide (a>=65536))then (JF245_6 (Int.fdiv a (2^16)) (wi (b+16)))else (JF245_6 a b)
def F245 (a:Int):Option Int:=bif (decide (a>=4294967296))then (JF245_3 (Int.fdiv a (2^32)) 32)else (JF245_3 a 0)
def F198 (b:Int):Option Int:=(F245 b).bind λa=>some a
def F161 (a:G265):Option Bool:=bif (decide (a.fu>0))then ((gshl .i64 1 (wi (a.fu-(1)))).bind λb=>some (a.faa==b))else (some false)
def JF239_11 (b:G265) (d:Int) (c:Int) (e:Bool) (a:Int):Option (G265×Bool):=some ((⟨b.fT,b.fQ,d,c,e,a⟩:G265),true)
def JF239_14 (a:G265) (c:Int) (d:Int) (f:Bool) (e:G75) (b:Bool):Option (G265×Bool):=bif b then (some ((⟨a.fT,a.fQ,c,d,f,a.fu⟩:G265),false))else (JF239_11 a c d true e.fX)
def JF239_8 (c:G75) (a:G265) (d:Int) (b:Int) (e:Bool):Option (G265×Bool):=bif (c.fX !=0)then ((F161 (⟨a.fT,a.fQ,d,b,e,a.fu⟩:G265)).bind λg=>bif g then (JF239_14 a d b e c true)else (bif (a.fu !=0)then (bif (c.fX !=a.fu)then (JF239_14 a d b e c true)else ((F198 (IntKind.wrap .u64 b)).bind λh=>JF239_14 a d b e c (decide (h>=c.fX))))else ((F198 (IntKind.wrap .u64 b)).bind λf=>JF239_14 a d b e c (decide (f>=c.fX)))))else (JF239_11 a d b e a.fu)
def JF239_33 (a:G265) (b:G75) (c:Bool):Option (G265×Bool):=bif c then (some ((⟨a.fT,a.fQ,ior .i64 a.fH b.fy,b.fy,false,a.fu⟩:G265),false))else (JF239_8 b a (ior .i64 a.fH b.fy) b.fy false)
def JF239_37 (a:G265) (b:G75) (c:Bool):Option (G265×Bool):=bif c then (some ((⟨a.fT,a.fQ,ior .i64 a.fH b.fy,b.fy,false,a.fu⟩:G265),false))else (JF239_8 b a (ior .i64 a.fH b.fy) b.fy false)
def JF239_27 (a:G265) (b:G75) (e:Bool):Option (G265×Bool):=bif e then (some ((⟨a.fT,a.fQ,a.fH,a.faa,a.fan,a.fu⟩:G265),false))else ((F198 (IntKind.wrap .u64 b.fy)).bind λc=>bif (a.fu==0)then (bif ((iand .i64 b.fy 1)==0)then (JF239_33 a b true)else (JF239_33 a b (decide ((wi (c-(1)))>6))))else (bif (decide ((wi (c-(1)))>=a.fu))then (JF239_37 a b true)else (bif ((wi (c-(1)))==(wi (a.fu-(1))))then ((F161 (⟨a.fT,a.fQ,ior .i64 a.fH b.fy,b.fy,false,a.fu⟩:G265)).bind λd=>bif (!d)then (JF239_37 a b true)else ((gshl .i64 1 a.fu).bind λf=>JF239_37 a b ((ior .i64 a.fH b.fy) !=(wi (f-(1))))))else (JF239_37 a b false))))
def JF239_3 (a:G265) (b:G75) (c:Bool):Option (G265×Bool):=bif c then (some ((⟨a.fT,a.fQ,a.fH,a.faa,a.fan,a.fu⟩:G265),false))else (bif (b.fy !=a.faa)then (bif (a.faa !=0)then (bif (!a.fan)then (JF239_27 a b true)else (JF239_27 a b ((iand .i64 b.fy a.fH) !=0)))else (JF239_27 a b ((iand .i64 b.fy a.fH) !=0)))else (bif a.fan then (some ((⟨a.fT,a.fQ,a.fH,a.faa,a.fan,a.fu⟩:G265),false))else (JF239_8 b a a.fH a.faa a.fan)))
def F239 (b:G265) (a:G75):Option (G265×Bool):=bif a.faG then (JF239_3 b a true)else (JF239_3 b a (b.fQ==0))
def JF160_18 (g:G75) (f:Bool) (e:Int) (a:Int) (d:Int) (b:Bool) (c:Int):Option (G265×Bool):=bif (g.fX !=0)then (some ((⟨false,0,0,0,false,0⟩:G265),true))else (some ((⟨f,wi (e+1),a,d,b,c⟩:G265),true))
def JF160_11 (b:G75) (c:Bool) (e:Int) (d:Int) (f:Int) (g:Bool) (a:Int):Option (G265×Bool):=bif b.faG then (bif c then (some ((⟨c,e,d,f,g,a⟩:G265),false))else (JF160_18 b true 0 0 0 false 0))else (JF160_18 b c e d f g a)
def F160 (a:G265) (c:G75):Option (G265×Bool):=bif (c.fy !=0)then ((F239 a c).bind λb=>some ((⟨b.1.fT,b.1.fQ,b.1.fH,b.1.faa,b.1.fan,b.1.fu⟩:G265),b.2))else (bif (a.faa !=0)then ((F161 a).bind λd=>bif (!d)then (some ((⟨a.fT,a.fQ,a.fH,a.faa,a.fan,a.fu⟩:G265),false))else (JF160_11 c false 0 0 0 false 0))else (JF160_11 c a.fT a.fQ a.fH a.faa a.fan a.fu))
def Zv (d:G27) (e:Int) (f:List G159) (b:Bool):Option (List G159):=(gx (Sl.es d.fc) (wi ((ln d.fc)-(1)))).bind λa=>(Yf b a.fID d e f).bind λc=>some c
def JF73_1_16 (i:G27) (g:Int) (c:List G159) (b:Bool) (h:Int) (f:Int) (a:Int) (d:Bool) (e:Int):Option (List G159):=bif b then (bif (a==0)then (Zv i g c true)else (bif (a !=0)then ((F161 (⟨b,h,f,a,d,e⟩:G265)).bind λj=>Zv i g c (!j))else (Zv i g c false)))else (bif (a !=0)then ((F161 (⟨b,h,f,a,d,e⟩:G265)).bind λk=>Zv i g c (!k))else (Zv i g c false))
def LF73_1_54 (k:G27) (m:Int) (l:List G159) (b:Int) (e:Bool) (f:Int) (g:Int) (c:Int) (d:Bool) (h:Int):Option ((Int×Bool×Int×Int×Int×Bool×Int)⊕(List G159⊕(Bool×Int×Int×Int×Bool×Int))):=bif (decide (b<(ln k.fc)))then ((gx (Sl.es k.fc) b).bind λi=>(F160 (⟨e,f,g,c,d,h⟩:G265) i).bind λa=>bif (!a.2)then ((Yf true i.fID k m l).bind λj=>some (.inr (.inl j)))else (some (.inl ((wi (b+1)),a.1.fT,a.1.fQ,a.1.fH,a.1.faa,a.1.fan,a.1.fu))))else (some (.inr (.inr (e,f,g,c,d,h))))
def Ve (k:G27) (h:Int) (l:List G159):Option (List G159):=(F131_6 k h l).bind λa=>bif (decide ((lnl a)>(lnl l)))then (some a)else ((Xg (λ((f,c,d,g,j,b,e):Int×Bool×Int×Int×Int×Bool×Int)=>LF73_1_54 k h a f c d g j b e) (0,false,0,0,0,false,0)).bind λi=>match i with|(.inl v43)=>some v43|(.inr (v44,v45,v46,v47,v48,v49))=>JF73_1_16 k h a v44 v45 v46 v47 v48 v49)
def F163_1 (b:G75) (a:G75):Option Bool:=bif (a.faw !=0)then (bif (b.faw !=0)then (some true)else (some ((iand .i64 a.fad b.fad) !=0)))else (some ((iand .i64 a.fad b.fad) !=0))
def JF240_1_2:Option Int:=some (-1)
def LF240_1_9 (d:Sl G75) (e:G75) (a:Int):Option (Int⊕Int⊕Unit):=bif (decide (a<(ln d)))then ((gx (Sl.es d) a).bind λb=>(F163_1 b e).bind λc=>bif c then (some (.inr (.inl a)))else (some (.inl (wi (a+1)))))else (some (.inr (.inr ())))
def F240_1 (c:Sl G75) (b:G75):Option Int:=(Xg (λ(d:Int)=>LF240_1_9 c b d) 0).bind λa=>match a with|(.inl v4)=>some v4|(.inr ())=>JF240_1_2
def F164_1 (b:Sl G75) (a:G75):Option Bool:=(F240_1 b a).bind λc=>some (decide (c>=0))
def F297_1 (b:G75) (a:Int):Option Bool:=some ((iand .i64 b.fad a) !=0)
def JF240_2_2:Option Int:=some (-1)
def LF240_2_9 (d:Sl G75) (e:Int) (a:Int):Option (Int⊕Int⊕Unit):=bif (decide (a<(ln d)))then ((gx (Sl.es d) a).bind λb=>(F297_1 b e).bind λc=>bif c then (some (.inr (.inl a)))else (some (.inl (wi (a+1)))))else (some (.inr (.inr ())))
def F240_2 (c:Sl G75) (b:Int):Option Int:=(Xg (λ(d:Int)=>LF240_2_9 c b d) 0).bind λa=>match a with|(.inl v4)=>some v4|(.inr ())=>JF240_2_2
def F242_1 (c:Int) (a:G27) (d:Int) (e:List G159):Option Int:=(F240_2 a.fc c).bind λb=>some b
def F241_1 (d:Int) (b:G27) (c:Int) (f:List G159) (g:Int):Option Bool:=(F242_1 d b c f).bind λe=>(F125 e 0 g).bind λa=>some a
def JF165_1_19 (b:G27) (f:Int) (g:List G159) (h:Int) (d:Bool):Option Bool:=bif d then ((F241_1 8 b f g h).bind λc=>bif c then ((F242_1 2 b f g).bind λa=>(F242_1 8 b f g).bind λe=>some (decide (a>e)))else (some false))else (some true)
def JF165_1_9 (c:G27) (e:Int) (f:List G159) (a:Int) (d:Int) (g:Bool):Option Bool:=bif g then ((F241_1 4 c e f a).bind λb=>some b)else (bif (d==3)then (JF165_1_19 c e f a (d==3))else (JF165_1_19 c e f a (d==6)))
def JF165_1_6 (a:Int) (c:G27) (d:Int) (e:List G159) (b:Int) (f:Bool):Option Bool:=bif f then (some false)else (bif (a==2)then (JF165_1_9 c d e b a (a==2))else (JF165_1_9 c d e b a (a==5)))
def F165_1 (c:Int) (a:Int) (b:G27) (d:Int) (e:List G159):Option Bool:=bif (decide (c>=4))then ((F241_1 1 b d e a).bind λf=>JF165_1_6 c b d e a (!f))else (JF165_1_6 c b d e a false)
def Zw (c:G27) (e:Int) (d:G75) (h:Int) (i:List G159) (f:Bool):Option Bool:=bif f then (some true)else ((gslR c.fc 0 e).bind λg=>(F164_1 g d).bind λa=>bif a then (some true)else ((F165_1 d.faw e c h i).bind λb=>some (!b)))
def F162_1 (c:Int) (a:G75) (b:G27) (d:Int) (e:List G159):Option Bool:=(F125 a.faw 0 6).bind λg=>bif (!g)then (Zw b c a d e true)else ((F125 a.fad 0 15).bind λf=>bif (!f)then (Zw b c a d e true)else (bif (a.faw !=0)then (bif (a.fX !=0)then (Zw b c a d e true)else (Zw b c a d e (a.fy !=0)))else (bif (a.fad !=0)then (bif (a.fX !=0)then (Zw b c a d e true)else (Zw b c a d e (a.fy !=0)))else (Zw b c a d e false))))
def LF131_7_11 (b:G27) (g:Int) (c:Int) (e:List G159):Option ((Int×(List G159))⊕List G159):=bif (decide (c<(ln b.fc)))then ((gx (Sl.es b.fc) c).bind λa=>(F162_1 c a b g e).bind λf=>(Yf f a.fID b g e).bind λd=>some (.inl ((wi (c+1)),d)))else (some (.inr e))
def F131_7 (e:G27) (a:Int) (c:List G159):Option (List G159):=(Xg (λ((f,b):Int×(List G159))=>LF131_7_11 e a f b) (0,c)).bind λd=>match d with|v6=>some v6
def Wt (b:G27) (a:Int) (d:List G159):Option (List G159):=(F131_7 b a d).bind λc=>some c
def JF166_7 (a:Bool):Option Bool:=some a
def LF166_15 (c:G75) (h:Int×Int) (g:Bool) (a:Int):Option ((Bool×Int)⊕Bool):=bif (decide (a<(ln c.fm)))then ((gx (Sl.es c.fm) a).bind λb=>bif g then (some (.inl (true,wi (a+1))))else ((F125 b.fAt 0 (wi (h.1-(1)))).bind λe=>bif (!e)then (some (.inl (true,wi (a+1))))else ((F125 b.f8 1 60000000).bind λf=>bif (!f)then (some (.inl (true,wi (a+1))))else (bif (decide (a>0))then ((gx (Sl.es c.fm) (wi (a-(1)))).bind λd=>some (.inl ((decide (b.fAt<=d.fAt)),wi (a+1))))else (some (.inl (false,wi (a+1))))))))else (some (.inr g))
def JF166_5 (b:G75) (c:Int×Int) (f:Bool):Option Bool:=(Xg (λ((d,e):Bool×Int)=>LF166_15 b c d e) (f,0)).bind λa=>match a with|v10=>JF166_7 v10
def F166 (f:Int) (a:G75):Option Bool:=(F99 a).bind λd=>bif (a.faO !=0)then ((F125 a.faO 50 75).bind λb=>bif (!b)then (JF166_5 a d true)else ((F125 a.faP 0 3).bind λe=>JF166_5 a d (!e)))else ((F125 a.faP 0 3).bind λc=>JF166_5 a d (!c))
def Qb (d:G27) (g:Int) (b:Int) (f:List G159):Option ((Int×(List G159))⊕List G159):=bif (decide (b<(ln d.fc)))then ((gx (Sl.es d.fc) b).bind λa=>(F166 b a).bind λc=>(Yf c a.fID d g f).bind λe=>some (.inl ((wi (b+1)),e)))else (some (.inr f))
def F131_8 (e:G27) (a:Int) (c:List G159):Option (List G159):=(Xg (λ((f,b):Int×(List G159))=>Qb e a f b) (0,c)).bind λd=>match d with|v6=>some v6
def Zt (b:G27) (a:Int) (d:List G159):Option (List G159):=(F131_8 b a d).bind λc=>some c
def Qd (e:G27) (f:Int) (c:G236×Bool) (d:Bool):Option Bool:=bif d then (some false)else ((gx (Sl.es e.fc) f).bind λa=>(gx (Sl.es e.fc) c.1.fo).bind λb=>bif (a.fX !=0)then (some true)else (bif (a.faw !=0)then (some true)else (bif ((iand .i64 a.fad 12) !=0)then (some true)else (bif (a.fy !=b.fy)then (some true)else (bif b.faG then (some true)else (some ((iand .i64 b.fad 3) !=0)))))))
def F167_1 (k:Int) (j:Int) (h:Int) (b:Int) (l:Int) (f:Int) (e:Int) (g:G147) (c:G27) (m:Int) (i:List G159):Option Bool:=(F152 c (⟨k,j,h,b,l,f,e⟩:G236)).bind λa=>bif (!a.2)then (Qd c b a true)else ((F151 g).bind λd=>bif (!d)then (Qd c b a true)else (Qd c b a (a.1.fo==b)))
def Qg (b:Int) (a:List G159):Option ((Int×(List G159))⊕List G159):=some (.inl ((wi (b+1)),a))
def Qf (a:Int) (b:List G159):Option ((Int×(List G159))⊕List G159):=some (.inl ((wi (a+1)),b))
def Qe (a:Int) (b:List G159):Option ((Int×(List G159))⊕List G159):=some (.inl ((wi (a+1)),b))
def LF140_5_50 (c:G100) (f:Int) (k:Int) (e:Int) (j:G27) (i:Int) (a:Int) (b:List G159):Option ((Int×(List G159))⊕List G159):=bif (decide (a<(ln c.fg)))then ((gx (Sl.es c.fg) a).bind λd=>(F167_1 4 0 f k e a 0 d j i b).bind λh=>(Yf h d.fID j i b).bind λg=>some (.inl ((wi (a+1)),g)))else (some (.inr b))
def LF140_5_37 (b:G95) (f:Int) (k:Int) (j:G27) (i:Int) (a:Int) (c:List G159):Option ((Int×(List G159))⊕List G159):=bif (decide (a<(ln b.fh)))then ((gx (Sl.es b.fh) a).bind λe=>(Xg (λ((g,h):Int×(List G159))=>LF140_5_50 e f k a j i g h) (0,c)).bind λd=>match d with|v45=>Qe a v45)else (some (.inr c))
def LF140_5_24 (b:G75) (j:Int) (i:G27) (h:Int) (a:Int) (c:List G159):Option ((Int×(List G159))⊕List G159):=bif (decide (a<(ln b.ff)))then ((gx (Sl.es b.ff) a).bind λd=>(Xg (λ((e,f):Int×(List G159))=>LF140_5_37 d a j i h e f) (0,c)).bind λg=>match g with|v32=>Qf a v32)else (some (.inr c))
def LF140_5_11 (f:G27) (h:Int) (a:Int) (g:List G159):Option ((Int×(List G159))⊕List G159):=bif (decide (a<(ln f.fc)))then ((gx (Sl.es f.fc) a).bind λd=>(Xg (λ((b,e):Int×(List G159))=>LF140_5_24 d a f h b e) (0,g)).bind λc=>match c with|v19=>Qg a v19)else (some (.inr g))
def F140_5 (e:G27) (a:Int) (c:List G159):Option (List G159):=(Xg (λ((f,b):Int×(List G159))=>LF140_5_11 e a f b) (0,c)).bind λd=>match d with|v6=>some v6
def Zx (b:G27) (a:Int) (d:List G159):Option (List G159):=(F140_5 b a d).bind λc=>some c
def Wa (b:Int) (a:List G159):Option (Sl G159):=some (mkSl a)
def Vb (a:List G159) (d:G27) (c:Bool):Option (Sl G159):=bif c then (Wa 17 a)else ((Zx d 17 a).bind λb=>Wa 17 b)
def Vc (b:List G159) (e:G27) (d:Bool):Option (Sl G159):=bif d then (Wa 16 b)else ((Zt e 16 b).bind λa=>bif (decide ((lnl a)>0))then ((gx a 0).bind λc=>Vb a e (decide (c.fam<10)))else (Vb a e false))
def Vd (c:List G159) (e:G27) (b:Bool):Option (Sl G159):=bif b then (Wa 15 c)else ((Wt e 15 c).bind λa=>bif (decide ((lnl a)>0))then ((gx a 0).bind λd=>Vc a e (decide (d.fam<10)))else (Vc a e false))
def Ud (b:List G159) (d:G27) (e:Bool):Option (Sl G159):=bif e then (Wa 14 b)else ((Ve d 14 b).bind λa=>bif (decide ((lnl a)>0))then ((gx a 0).bind λc=>Vd a d (decide (c.fam<10)))else (Vd a d false))
def Ue (b:List G159) (d:G27) (e:Bool):Option (Sl G159):=bif e then (Wa 13 b)else ((F72_1 d 13 b).bind λa=>bif (decide ((lnl a)>0))then ((gx a 0).bind λc=>Ud a d (decide (c.fam<10)))else (Ud a d false))
def Uf (b:List G159) (e:G27) (d:Bool):Option (Sl G159):=bif d then (Wa 12 b)else ((F71_1 e 12 b).bind λa=>bif (decide ((lnl a)>0))then ((gx a 0).bind λc=>Ue a e (decide (c.fam<10)))else (Ue a e false))
def Ug (b:List G159) (e:G27) (d:Bool):Option (Sl G159):=bif d then (Wa 11 b)else ((F70_1 e 11 b).bind λa=>bif (decide ((lnl a)>0))then ((gx a 0).bind λc=>Uf a e (decide (c.fam<10)))else (Uf a e false))
def Uh (c:List G159) (e:G27) (d:Bool):Option (Sl G159):=bif d then (Wa 10 c)else ((F69_1 e 10 c).bind λa=>bif (decide ((lnl a)>0))then ((gx a 0).bind λb=>Ug a e (decide (b.fam<10)))else (Ug a e false))
def JF29_54 (c:G27) (d:List G159):Option (Sl G159):=(F68_1 c 9 d).bind λa=>bif (decide ((lnl a)>0))then ((gx a 0).bind λb=>Uh a c (decide (b.fam<10)))else (Uh a c false)
def JF29_48 (c:G27) (b:List G159):Option (Sl G159):=(F67_1 c 8 b).bind λa=>bif (decide ((lnl a)>0))then (JF29_54 c a)else (JF29_54 c a)
def JF29_42 (c:G27) (b:List G159):Option (Sl G159):=(F66_1 c 7 b).bind λa=>bif (decide ((lnl a)>0))then (JF29_48 c a)else (JF29_48 c a)
def JF29_36 (c:G27) (b:List G159):Option (Sl G159):=(F65_1 c 6 b).bind λa=>bif (decide ((lnl a)>0))then (JF29_42 c a)else (JF29_42 c a)
def JF29_30 (c:G27) (b:List G159):Option (Sl G159):=(F64_1 c 5 b).bind λa=>bif (decide ((lnl a)>0))then (JF29_36 c a)else (JF29_36 c a)
def JF29_24 (b:G27) (c:List G159):Option (Sl G159):=(F63_1 b 4 c).bind λa=>bif (decide ((lnl a)>0))then (JF29_30 b a)else (JF29_30 b a)
def JF29_18 (c:G27) (b:List G159):Option (Sl G159):=(F62_1 c 3 b).bind λa=>bif (decide ((lnl a)>0))then (JF29_24 c a)else (JF29_24 c a)
def JF29_11 (d:List G159) (b:G27) (c:Bool):Option (Sl G159):=bif c then (Wa 2 d)else ((F61_1 b 2 d).bind λa=>bif (decide ((lnl a)>0))then (JF29_18 b a)else (JF29_18 b a))
def JF29_4 (a:G27):Option (Sl G159):=(F60_1 a 1 ([]:List G159)).bind λb=>bif (decide ((lnl b)>0))then (JF29_11 b a true)else (JF29_11 b a false)
def F29 (a:G27):Option (Sl G159):=bif (decide ((lnl ([]:List G159))>0))then (JF29_4 a)else (JF29_4 a)
def F14 (b:G27):Option Bool:=(F29 b).bind λa=>some ((ln a)==0)
def JF37_1 (a:G100):Option Bool:=bif (decide ((ln a.fg)<=20))then (some (decide ((ln a.fY)<=6)))else (some false)
def JF37_10 (a:Int):Option (Int⊕Unit⊕Unit):=some (.inl (wi (a+1)))
def LF37_21 (b:G147) (a:Int):Option (Int⊕Unit⊕Unit):=bif (decide (a<(ln b.fv)))then ((gx (Sl.es b.fv) a).bind λc=>bif (decide ((lns c.fP)>300))then (some (.inr (.inl ())))else (some (.inl (wi (a+1)))))else (some (.inr (.inr ())))
def JF37_14 (b:G147) (e:Int) (d:Bool):Option (Int⊕Unit⊕Unit):=bif d then (some (.inr (.inl ())))else ((Xg (λ(a:Int)=>LF37_21 b a) 0).bind λc=>match c with|(.inl ())=>some (.inr (.inl ()))|(.inr ())=>JF37_10 e)
def LF37_8 (c:G100) (b:Int):Option (Int⊕Unit⊕Unit):=bif (decide (b<(ln c.fg)))then ((gx (Sl.es c.fg) b).bind λa=>bif (decide ((ln a.fD)>12))then (JF37_14 a b true)else (bif (decide ((ln a.fS)>12))then (JF37_14 a b true)else (JF37_14 a b (decide ((ln a.fv)>12)))))else (some (.inr (.inr ())))
def F37 (a:G100):Option Bool:=(Xg (λ(c:Int)=>LF37_8 a c) 0).bind λb=>match b with|(.inl ())=>some false|(.inr ())=>JF37_1 a
def JF38_2 (a:Int):Option Int:=some a
def JF38_13 (b:Int) (a:Int):Option ((Int×Int)⊕Int):=some (.inl (a,wi (b+1)))
def LF38_21 (f:G100) (g:Int) (b:Int) (a:Int):Option ((Int×Int)⊕Int):=(gx (Sl.es f.fg) g).bind λe=>bif (decide (a<(ln e.fv)))then ((gx (Sl.es f.fg) g).bind λd=>(gx (Sl.es d.fv) a).bind λc=>some (.inl ((wi (b+(lns c.fP))),wi (a+1))))else (some (.inr b))
def LF38_10 (f:G100) (e:Int) (d:Int):Option ((Int×Int)⊕Int):=bif (decide (d<(ln f.fg)))then ((Xg (λ((c,b):Int×Int)=>LF38_21 f d c b) (e,0)).bind λa=>match a with|v16=>JF38_13 d v16)else (some (.inr e))
def F38 (b:G100):Option Int:=(Xg (λ((a,c):Int×Int)=>LF38_10 b a c) (0,0)).bind λd=>match d with|v5=>JF38_2 v5
def JF12_2 (a:G27):Option Bool:=bif (decide ((ln a.fi)<=4))then (bif (decide ((ln a.fc)<=10))then (bif (decide ((ln a.fp)<=10))then (bif (decide ((ln a.fG)<=5))then (some (decide ((lns a.fay)<=300)))else (some false))else (some false))else (some false))else (some false)
def JF12_18 (c:Int) (a:Int) (b:Int):Option ((Int×Int×Int)⊕Unit⊕Unit):=some (.inl (a,b,wi (c+1)))
def JF12_37 (b:Int) (a:Int) (c:Int):Option ((Int×Int×Int)⊕(Unit⊕(Int×Int))):=some (.inl (a,c,wi (b+1)))
def JF12_72 (c:Int) (f:G100) (d:Int) (b:Int) (e:Int) (a:Bool):Option ((Int×Int×Int)⊕(Unit⊕(Int×Int))):=bif a then (some (.inr (.inl ())))else (some (.inl ((wi (c+(ln f.fg))),wi (d+b),wi (e+1))))
def LF12_50 (d:G75) (c:Int) (b:Int) (e:Int) (a:Int):Option ((Int×Int×Int)⊕(Unit⊕(Int×Int))):=(gx (Sl.es d.ff) c).bind λi=>bif (decide (a<(ln i.fh)))then ((gx (Sl.es d.ff) c).bind λh=>(gx (Sl.es h.fh) a).bind λm=>(F37 m).bind λn=>bif (!n)then (some (.inr (.inl ())))else ((gx (Sl.es d.ff) c).bind λj=>(gx (Sl.es j.fh) a).bind λg=>(gx (Sl.es d.ff) c).bind λl=>(gx (Sl.es l.fh) a).bind λk=>(F38 k).bind λf=>bif (decide ((wi (b+(ln g.fg)))>400))then (JF12_72 b g e f a true)else (JF12_72 b g e f a (decide ((wi (e+f))>20000)))))else (some (.inr (.inr (b,e))))
def JF12_39 (g:G75) (a:Int) (d:Int) (i:Int) (e:Bool):Option ((Int×Int×Int)⊕(Unit⊕(Int×Int))):=bif e then (some (.inr (.inl ())))else ((Xg (λ((c,h,f):Int×Int×Int)=>LF12_50 g a c h f) (d,i,0)).bind λb=>match b with|(.inl ())=>some (.inr (.inl ()))|(.inr (v44,v45))=>JF12_37 a v44 v45)
def LF12_33 (a:G75) (c:Int) (d:Int) (b:Int):Option ((Int×Int×Int)⊕(Unit⊕(Int×Int))):=bif (decide (b<(ln a.ff)))then ((gx (Sl.es a.ff) b).bind λf=>bif (decide ((ln f.fR)>5))then (JF12_39 a b c d true)else ((gx (Sl.es a.ff) b).bind λe=>JF12_39 a b c d (decide ((ln e.fh)>3))))else (some (.inr (.inr (c,d))))
def JF12_22 (d:G75) (g:Int) (h:Int) (i:Int) (f:Bool):Option ((Int×Int×Int)⊕Unit⊕Unit):=bif f then (some (.inr (.inl ())))else ((Xg (λ((a,e,b):Int×Int×Int)=>LF12_33 d a e b) (g,h,0)).bind λc=>match c with|(.inl ())=>some (.inr (.inl ()))|(.inr (v27,v28))=>JF12_18 i v27 v28)
def LF12_14 (e:G27) (c:Int) (d:Int) (b:Int):Option ((Int×Int×Int)⊕Unit⊕Unit):=bif (decide (b<(ln e.fc)))then ((gx (Sl.es e.fc) b).bind λa=>bif (decide ((ln a.ff)>5))then (JF12_22 a c d b true)else (bif (decide ((ln a.fm)>5))then (JF12_22 a c d b true)else (JF12_22 a c d b (decide ((lns a.fax)>300)))))else (some (.inr (.inr ())))
def JF12_1 (b:G27):Option Bool:=(Xg (λ((c,d,e):Int×Int×Int)=>LF12_14 b c d e) (0,0,0)).bind λa=>match a with|(.inl ())=>some false|(.inr ())=>JF12_2 b
def JF12_90 (a:Int) (b:Bool):Option (Int⊕Unit⊕Unit):=bif b then (some (.inr (.inl ())))else (some (.inl (wi (a+1))))
def LF12_87 (c:G27) (a:Int):Option (Int⊕Unit⊕Unit):=bif (decide (a<(ln c.fi)))then ((gx (Sl.es c.fi) a).bind λd=>bif (decide ((ln d.fx)>5))then (JF12_90 a true)else ((gx (Sl.es c.fi) a).bind λb=>JF12_90 a (decide ((lns b.faz)>300))))else (some (.inr (.inr ())))
def F12 (c:G27):Option Bool:=(Xg (λ(a:Int)=>LF12_87 c a) 0).bind λb=>match b with|(.inl ())=>some false|(.inr ())=>JF12_1 c
def F91 (b:Int) (a:Int):Option (Int×Int):=some ((IntKind.wrap .u64 ((IntKind.wrap .u64 ((IntKind.wrap .u64 ((Int.fdiv b (2^32))*(Int.fdiv a (2^32))))+(Int.fdiv (IntKind.wrap .u64 ((IntKind.wrap .u64 ((Int.fdiv b (2^32))*(iand .u64 a 4294967295)))+(Int.fdiv (IntKind.wrap .u64 ((iand .u64 b 4294967295)*(iand .u64 a 4294967295))) (2^32)))) (2^32))))+(Int.fdiv (IntKind.wrap .u64 ((iand .u64 (IntKind.wrap .u64 ((IntKind.wrap .u64 ((Int.fdiv b (2^32))*(iand .u64 a 4294967295)))+(Int.fdiv (IntKind.wrap .u64 ((iand .u64 b 4294967295)*(iand .u64 a 4294967295))) (2^32)))) 4294967295)+(IntKind.wrap .u64 ((iand .u64 b 4294967295)*(Int.fdiv a (2^32)))))) (2^32)))),IntKind.wrap .u64 (b*a))
def F44_1 (a:G114) (b:G27):Option Bool:=bif (decide (a.fo<0))then (some true)else (some (decide (a.fo>=(ln b.fc))))
def JF93_1_2:Option Int:=some (-1)
def LF93_1_9 (d:Sl G114) (e:G27) (a:Int):Option (Int⊕Int⊕Unit):=bif (decide (a<(ln d)))then ((gx (Sl.es d) a).bind λb=>(F44_1 b e).bind λc=>bif c then (some (.inr (.inl a)))else (some (.inl (wi (a+1)))))else (some (.inr (.inr ())))
def F93_1 (c:Sl G114) (b:G27):Option Int:=(Xg (λ(d:Int)=>LF93_1_9 c b d) 0).bind λa=>match a with|(.inl v4)=>some v4|(.inr ())=>JF93_1_2
def F43_1 (b:Sl G114) (a:G27):Option Bool:=(F93_1 b a).bind λc=>some (decide (c>=0))
def JF94_2 (a:List Int):Option (Sl Int):=some (Sl.no a)
def LF94_10 (g:G27) (d:List Int) (a:Int):Option (((List Int)×Int)⊕List Int):=bif (decide (a<(ln g.fc)))then ((gx (Sl.es g.fc) a).bind λf=>(F99 f).bind λc=>(gx d a).bind λb=>(gapp 8 d (Sl.es (Sl.full [wi (b+c.1)]))).bind λe=>some (.inl (e,wi (a+1))))else (some (.inr d))
def F94 (b:G27):Option (Sl Int):=(Xg (λ((a,c):(List Int)×Int)=>LF94_10 b a c) ([0],0)).bind λd=>match d with|v5=>JF94_2 v5
def F47 (a:G27):Option ((Sl Int)×Int):=(F14 a).bind λb=>bif (!b)then (some (Sl.nil,24))else ((F94 a).bind λc=>some (c,0))
def JF39_4 (a:(Sl Int)×Int) (b:List G173):Option ((Sl G173)×(Sl Int)):=some ((Sl.no b),a.1)
def JF39_15 (b:Int) (a:List G173):Option (((List G173)×Int)⊕List G173):=some (.inl (a,wi (b+1)))
def LF39_25 (d:G75) (h:(Sl Int)×Int) (g:Int) (c:List G173) (b:Int):Option (((List G173)×Int)⊕List G173):=bif (decide (b<(ln d.fm)))then ((gx (Sl.es d.fm) b).bind λa=>(gx (Sl.es h.1) g).bind λf=>(gapp 24 c (Sl.es (Sl.full [(⟨wi (f+a.fAt),a.f8,a.faA⟩:G173)]))).bind λe=>some (.inl (e,wi (b+1))))else (some (.inr c))
def LF39_12 (g:G27) (h:(Sl Int)×Int) (f:List G173) (a:Int):Option (((List G173)×Int)⊕List G173):=bif (decide (a<(ln g.fc)))then ((gx (Sl.es g.fc) a).bind λd=>(Xg (λ((c,e):(List G173)×Int)=>LF39_25 d h a c e) (f,0)).bind λb=>match b with|v20=>JF39_15 a v20)else (some (.inr f))
def F39 (b:G27):Option ((Sl G173)×(Sl Int)):=(F47 b).bind λa=>(Xg (λ((d,c):(List G173)×Int)=>LF39_12 b a d c) ([(⟨-1,500000,false⟩:G173)],0)).bind λe=>match e with|v7=>JF39_4 a v7
def F90_1 (b:Int) (a:Sl G173) (c:Int):Option Bool:=(gx (Sl.es a) b).bind λd=>some (decide (d.fL>c))
def JF89_1_4 (a:Int):Option Int:=some a
def LF89_1_12 (d:Sl G173) (e:Int) (a:Int) (b:Int):Option ((Int×Int)⊕Int):=bif (decide (a<b))then ((F90_1 (wi (Int.fdiv (IntKind.wrap .u64 (wi (a+b))) (2^1))) d e).bind λc=>bif (!c)then (some (.inl ((wi ((wi (Int.fdiv (IntKind.wrap .u64 (wi (a+b))) (2^1)))+1)),b)))else (some (.inl (a,wi (Int.fdiv (IntKind.wrap .u64 (wi (a+b))) (2^1))))))else (some (.inr a))
def F89_1 (f:Int) (a:Sl G173) (d:Int):Option Int:=(Xg (λ((c,b):Int×Int)=>LF89_1_12 a d c b) (0,f)).bind λe=>match e with|v7=>JF89_1_4 v7
def F41 (a:Sl G173) (b:Int):Option Int:=(F89_1 (ln a) a b).bind λc=>some (wi (c-(1)))
def JF40_6 (a:G173) (h:Sl G173) (g:Int) (e:Int) (f:Bool):Option Int:=bif f then (some a.f7)else ((gx (Sl.es h) (wi (g+1))).bind λc=>(gq .i64 (wi ((wi (c.f7-a.f7))*(wi (e-a.fL)))) (wi (c.fL-a.fL))).bind λb=>(gr (wi ((wi (c.f7-a.f7))*(wi (e-a.fL)))) (wi (c.fL-a.fL))).bind λd=>bif (decide (d<0))then (some (wi (a.f7+(wi (b-(1))))))else (some (wi (a.f7+b))))
def F40 (b:Sl G173) (a:Int) (d:Int):Option Int:=(gx (Sl.es b) a).bind λc=>bif (!c.faD)then (JF40_6 c b a d true)else (JF40_6 c b a d ((wi (a+1))==(ln b)))
def F16 (a:Int) (b:Int) (c:Int):Option Bool:=bif (decide (a>=b))then (some (decide (a<=c)))else (some false)
def JF18_3 (a:List G108):Option (Sl G108):=some (mkSl a)
def JF18_14 (b:Int) (a:List G108):Option (((List G108)×Int)⊕List G108):=some (.inl (a,wi (b+1)))
def LF18_22 (i:G27) (e:Int) (j:Sl Int) (c:List G108) (b:Int):Option (((List G108)×Int)⊕List G108):=(gx (Sl.es i.fc) e).bind λh=>bif (decide (b<(ln h.fm)))then ((gx (Sl.es i.fc) e).bind λf=>(gx (Sl.es f.fm) b).bind λa=>(gx (Sl.es j) e).bind λd=>(gapp 24 c (Sl.es (Sl.full [(⟨wi (d+a.fAt),a.f8,a.faA⟩:G108)]))).bind λg=>some (.inl (g,wi (b+1))))else (some (.inr c))
def LF18_11 (e:G27) (g:Sl Int) (f:List G108) (b:Int):Option (((List G108)×Int)⊕List G108):=bif (decide (b<(ln e.fc)))then ((Xg (λ((c,a):(List G108)×Int)=>LF18_22 e b g c a) (f,0)).bind λd=>match d with|v17=>JF18_14 b v17)else (some (.inr f))
def F18 (d:G27) (a:Sl Int):Option (Sl G108):=(Xg (λ((e,b):(List G108)×Int)=>LF18_11 d a e b) ([],0)).bind λc=>match c with|v6=>JF18_3 v6
def F42 (a:Int) (b:Int) (e:Int) (f:Int):Option Int:=(F91 (IntKind.wrap .u64 (if (wi (a-b))>(wi (b-a))then (wi (a-b))else (wi (b-a)))) (IntKind.wrap .u64 f)).bind λd=>(F92 d.1 d.2 (IntKind.wrap .u64 e)).bind λc=>bif (decide (b>=a))then (some (wi (a+(wi c.1))))else (bif (decide (c.2>0))then (some (wi (a-(wi (IntKind.wrap .u64 (c.1+1))))))else (some (wi (a-(wi c.1)))))
def JF17_7 (a:Sl G108) (b:Int) (k:Int) (i:Bool):Option Int:=bif i then ((gx (Sl.es a) b).bind λj=>some j.f7)else ((gx (Sl.es a) b).bind λg=>(gx (Sl.es a) (wi (b+1))).bind λe=>(gx (Sl.es a) (wi (b+1))).bind λd=>(gx (Sl.es a) b).bind λc=>(gx (Sl.es a) b).bind λf=>(F42 g.f7 e.f7 (wi (d.fat-c.fat)) (wi (k-f.fat))).bind λh=>some h)
def JF17_4 (b:Sl G108) (d:Int) (a:Int):Option Int:=bif (decide (a<0))then (some 500000)else ((gx (Sl.es b) a).bind λc=>bif (!c.faD)then (JF17_7 b a d true)else (JF17_7 b a d ((wi (a+1))==(ln b))))
def JF17_36 (a:Int) (b:Int):Option ((Int×Int)⊕Int):=some (.inl (b,wi (a+1)))
def Ui (a:Int) (b:Int) (c:Bool):Option ((Int×Int)⊕Int):=bif c then (JF17_36 a a)else (JF17_36 a b)
def LF17_33 (e:Sl G108) (f:Int) (g:Bool) (b:Int) (a:Int):Option ((Int×Int)⊕Int):=bif (decide (a<(ln e)))then ((gx (Sl.es e) a).bind λc=>bif (decide (c.fat<f))then (Ui a b true)else ((gx (Sl.es e) a).bind λd=>bif (d.fat==f)then (Ui a b (!g))else (Ui a b false)))else (some (.inr b))
def F17 (e:Sl G108) (d:Int) (f:Bool):Option Int:=(Xg (λ((c,a):Int×Int)=>LF17_33 e d f c a) ((-1),0)).bind λb=>match b with|v28=>JF17_4 e d v28
end
end Go.Proofs.YtibndgdocbbbeaaGreat
