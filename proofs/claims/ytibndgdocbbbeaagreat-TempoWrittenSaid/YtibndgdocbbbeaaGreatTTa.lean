/- A part of the proof. -/
import Derived.Test.YtibndgdocbbbeaaGreatFD
import Derived.Test.YtibndgdocbbbeaaGreatTU2
set_option linter.all false
set_option maxRecDepth 100000
set_option maxHeartbeats 4000000
set_option linter.unusedVariables false
namespace Go.Proofs.YtibndgdocbbbeaaGreat
open Go.PE
structure okG171 (x:G171):Prop where
 fH:(OkB) x.fH
structure okG147 (x:G147):Prop where
 fv:OkSl (λ_=>True) 1000 x.fv
 fS:OkSl (λ_=>True) 1000 x.fS
 fq:OkSl okG171 1000 x.fq
structure okG68 (x:G68):Prop where
 fau:(OkB) x.fau
 ft:OkSl (λ_=>True) 5 x.ft
structure okG100 (x:G100):Prop where
 fg:OkSl okG147 1000 x.fg
 fX:OkSl (λ_=>True) 6 x.fX
structure okG95 (x:G95):Prop where
 fQ:OkSl (λ_=>True) 8 x.fQ
 ff:OkSl okG100 3 x.ff
structure okG75 (x:G75):Prop where
 fR:x.fR<=9223372036854775807
 fap:(OkB) x.fap
 fm:OkSl (λ_=>True) 8 x.fm
 fe:OkSl okG95 5 x.fe
structure okG27 (x:G27):Prop where
 fav:(OkB) x.fav
 fh:OkSl okG68 4 x.fh
 fc:OkSl okG75 10 x.fc
 fi:OkSl (λ_=>True) 10 x.fi
 fF:OkSl (λ_=>True) 5 x.fF
structure okG326 (x:G326):Prop where
 fK:(OkB) x.fK
structure okG385 (x:G385):Prop where
 a0:okG326 x.a0
 a1:okG326 x.a1
 a2:okG326 x.a2
 a3:okG326 x.a3
 a4:okG326 x.a4
 a5:okG326 x.a5
 a6:okG326 x.a6
 a7:okG326 x.a7
 a8:okG326 x.a8
structure okG265 (x:G265):Prop where
 fo:x.fo<=9223372036854775807
theorem tF202 {v0}:Tot (F202 v0) (λ_=>True):=by
 refine t_bd (λc1=>?_) λc1=>?_
 ·exact tL
 ·exact tL
theorem tJF275_1_1:Tot (JF275_1_1 ) (λ_=>True):=by
 exact tL
theorem tLF275_1_8 {v0:Sl Int} {v2:Int} (kv0:(OkSl (λ_=>True) 1000) v0) (b0:0<=v2) (b1:v2<=1000):Tot (LF275_1_8 v0 v2) (λr=>match r with|.inl r=>(r=v2+1/\v2<1000)|.inr (.inl r)=>True|.inr (.inr r)=>True):=by
 refine t_bd (λc2=>?_) λc2=>?_
 ·have lc2:=(kv0).le
  refine t_bi (Xg kv0 tI tI) λv10 hv10 ov10=>?_
  refine Xb (tF202) λv12 hv12=>?_
  refine Xc (λc3=>?_) λc3=>?_
  ·exact tL
  ·exact tL
 ·have lb4:=(kv0).le
  exact tL
theorem tF275_1 {v0:Sl Int} (kv0:(OkSl (λ_=>True) 1000) v0):Tot (F275_1 v0) (λ_=>True):=by
 refine Xb (Xe (λv2=>v2) 1000 (by decide) (λv2=>True) (T:=tru) tB tB tZ ?_) ?_
 ·rintro v2 hI h0 h1
  refine(tLF275_1_8 kv0 h0 h1).mono ?_
  exact tM
 ·rintro(v3|⟨⟩) ho4
  ·try dsimp only at ho4 ⊢
   exact tL
  ·try dsimp only at ho4 ⊢
   exact tJF275_1_1
theorem tF203_1 {v0:Sl Int} (kv0:(OkSl (λ_=>True) 1000) v0):Tot (F203_1 v0) (λ_=>True):=by
 refine Xb (tF275_1 kv0) λv2 hv2=>?_
 exact tL
theorem tF124 {v0} (kv0:(OkB) v0):Tot (F124 v0) (λ_=>True):=by
 refine t_bd (λc6=>?_) λc6=>?_
 ·refine Xb (t_gbyB kv0) λv2 hv2=>?_
  refine Xb (tF203_1 hv2) λv5 hv5=>?_
  exact tL
 ·exact tL
theorem Xz {v0 v1 v2 v3} {v4:List G159} (kv2:okG27 v2) (kl:v4.length+1<=500000000000):Tot (Yd v0 v1 v2 v3 v4) (λr=>r.length<=v4.length+1):=by
 refine Xc (λc7=>?_) λc7=>?_
 ·refine Xb (t_gappK 1 (h:=tI)) λv7 hv7=>?_
  exact tL
 ·exact tL
theorem Wk {v0 v1 v2}:Tot (F125 v0 v1 v2) (λ_=>True):=by
 refine t_bd (λc8=>?_) λc8=>?_
 ·exact tL
 ·exact tL
theorem tJF126_2 {v1}:Tot (JF126_2 v1) (λ_=>True):=by
 refine Xc (λc9=>?_) λc9=>?_
 ·exact tL
 ·exact tL
theorem tF126 {v0}:Tot (F126 v0) (λ_=>True):=by
 refine t_bd (λc10=>?_) λc10=>?_
 ·exact tJF126_2
 ·refine t_bd (λc11=>?_) λc11=>?_
  ·exact tJF126_2
  ·refine t_bd (λc12=>?_) λc12=>?_
   ·exact tJF126_2
   ·exact tJF126_2
theorem tF123_2 {v0 v1 v2 v3 v4} {v5:List G159} (kv3:okG27 v3) (kl:v5.length+1<=500000000000):Tot (Vd v0 v1 v2 v3 v4 v5) (λr=>r.length<=v5.length+1):=by
 refine Xc (λc13=>?_) λc13=>?_
 ·refine Xb (t_gappK 1 (h:=tI)) λv8 hv8=>?_
  exact tL
 ·exact tL
theorem tJF60_1_7 {v0 v1} {v6:List G159} (kv0:okG27 v0) (kl:v6.length+1<=500000000000):Tot (JF60_1_7 v0 v1 v6) (λr=>r.length<=v6.length+1):=by
 refine Xb (tF124 kv0.fav) λv8 hv8=>?_
 refine Xc (λc14=>?_) λc14=>?_
 ·refine Xb (tF123_2 kv0 tI) λv17 hv17=>?_
  exact tL
 ·refine Xb (Wk) λv19 hv19=>?_
  refine Xc (λc15=>?_) λc15=>?_
  ·refine Xb (tF123_2 kv0 tI) λv28 hv28=>?_
   exact tL
  ·refine Xb (Wk) λv30 hv30=>?_
   refine Xc (λc16=>?_) λc16=>?_
   ·refine Xb (tF123_2 kv0 tI) λv39 hv39=>?_
    exact tL
   ·refine t_bd (λc17=>?_) λc17=>?_
    ·have lb18:=(kv0.fi).le
     refine Xb (tF123_2 kv0 tI) λv48 hv48=>?_
     exact tL
    ·have lb19:=(kv0.fi).le
     refine Xb (tF123_2 kv0 tI) λv56 hv56=>?_
     exact tL
theorem tJF60_1_68 {v58:Int} {v67:List G159} (kl:v67.length+0<=500000000000) (b0:0<=v58) (b1:v58<10):Tot (JF60_1_68 v58 v67) (λr=>match r with|.inl r=>(r.1=v58+1/\v58<10)/\r.2.length<=v67.length+0|.inr r=>r.length<=v67.length+0):=by
 exact tL
theorem tJF60_1_74 {v69 v0 v1} {v59:List G159} {v58:Int} {v73} (kv69:okG75 v69) (kv0:okG27 v0) (kl:v59.length+1<=500000000000) (b0:0<=v58) (b1:v58<10):Tot (JF60_1_74 v69 v0 v1 v59 v58 v73) (λr=>match r with|.inl r=>(r.1=v58+1/\v58<10)/\r.2.length<=v59.length+1|.inr r=>r.length<=v59.length+1):=by
 refine Xb (Xz kv0 tI) λv80 hv80=>?_
 exact(tJF60_1_68 tI tI tI).mono tM
theorem tJF60_1_92 {v83:Int} {v91} (b0:0<=v83) (b1:v83<5):Tot (JF60_1_92 v83 v91) (λr=>match r with|.inl r=>True/\(r.2=v83+1/\v83<5)|.inr r=>True):=by
 exact tL
theorem tLF60_1_104 {v93 v97} {v98:Int} (kv93:okG95 v93) (b0:0<=v98) (b1:v98<=3):Tot (LF60_1_104 v93 v97 v98) (λr=>match r with|.inl r=>True/\(r.2=v98+1/\v98<3)|.inr r=>True):=by
 refine t_bd (λc20=>?_) λc20=>?_
 ·have lc20:=(kv93.ff).le
  refine t_bi (Xg (kv93.ff) tI tI) λv106 hv106 ov106=>?_
  refine Xc (λc21=>?_) λc21=>?_
  ·exact tL
  ·refine t_bd (λc22=>?_) λc22=>?_
   ·have lb23:=(hv106.fg).le
    exact tL
   ·have lb24:=(hv106.fg).le
    exact tL
 ·have lb25:=(kv93.ff).le
  exact tL
theorem tJF60_1_96 {v93} {v83:Int} {v95} (kv93:okG95 v93) (b0:0<=v83) (b1:v83<5):Tot (JF60_1_96 v93 v83 v95) (λr=>match r with|.inl r=>True/\(r.2=v83+1/\v83<5)|.inr r=>True):=by
 refine Xb (Xe (λ(v97,v98)=>v98) 3 (by decide) (λ(v97,v98)=>True) (T:=tru) tB tB tZ ?_) ?_
 ·rintro⟨v97,v98⟩ hI h0 h1
  refine(tLF60_1_104 kv93 h0 h1).mono ?_
  exact tM
 ·rintro v99 ho100
  exact(tJF60_1_92 tI tI).mono tM
theorem tLF60_1_89 {v69 v82} {v83:Int} (kv69:okG75 v69) (b0:0<=v83) (b1:v83<=5):Tot (LF60_1_89 v69 v82 v83) (λr=>match r with|.inl r=>True/\(r.2=v83+1/\v83<5)|.inr r=>True):=by
 refine t_bd (λc27=>?_) λc27=>?_
 ·have lc27:=(kv69.fe).le
  refine t_bi (Xg (kv69.fe) tI tI) λv93 hv93 ov93=>?_
  refine Xc (λc28=>?_) λc28=>?_
  ·exact(tJF60_1_96 hv93 tI tI).mono tM
  ·refine t_bd (λc29=>?_) λc29=>?_
   ·have lb30:=(hv93.fQ).le
    exact(tJF60_1_96 hv93 tI tI).mono tM
   ·have lb31:=(hv93.fQ).le
    exact(tJF60_1_96 hv93 tI tI).mono tM
 ·have lb32:=(kv69.fe).le
  exact tL
theorem tJF60_1_72 {v69 v0 v1} {v59:List G159} {v58:Int} {v71} (kv69:okG75 v69) (kv0:okG27 v0) (kl:v59.length+1<=500000000000) (b0:0<=v58) (b1:v58<10):Tot (JF60_1_72 v69 v0 v1 v59 v58 v71) (λr=>match r with|.inl r=>(r.1=v58+1/\v58<10)/\r.2.length<=v59.length+1|.inr r=>r.length<=v59.length+1):=by
 refine Xb (Xe (λ(v82,v83)=>v83) 5 (by decide) (λ(v82,v83)=>True) (T:=tru) tB tB tZ ?_) ?_
 ·rintro⟨v82,v83⟩ hI h0 h1
  refine(tLF60_1_89 kv69 h0 h1).mono ?_
  exact tM
 ·rintro v84 ho85
  exact(tJF60_1_74 kv69 kv0 tI tI tI).mono tM
theorem tLF60_1_65 {v0 v1} {v58:Int} {v59:List G159} (kv0:okG27 v0) (kl:v59.length+1<=500000000000) (b0:0<=v58) (b1:v58<=10):Tot (LF60_1_65 v0 v1 v58 v59) (λr=>match r with|.inl r=>(r.1=v58+1/\v58<10)/\r.2.length<=v59.length+1|.inr r=>r.length<=v59.length+1):=by
 refine t_bd (λc34=>?_) λc34=>?_
 ·have lc34:=(kv0.fc).le
  refine t_bi (Xg (kv0.fc) tI tI) λv69 hv69 ov69=>?_
  refine Xb (tF124 hv69.fap) λv112 hv112=>?_
  refine Xc (λc35=>?_) λc35=>?_
  ·exact(tJF60_1_72 hv69 kv0 tI tI tI).mono tM
  ·exact(tJF60_1_72 hv69 kv0 tI tI tI).mono tM
 ·have lb36:=(kv0.fc).le
  exact tL
theorem tJF60_1_5 {v0 v1} {v4:List G159} (kv0:okG27 v0) (kl:v4.length+12<=500000000000):Tot (JF60_1_5 v0 v1 v4) (λr=>r.length<=v4.length+12):=by
 refine Xb (Xe (λ(v58,v59)=>v58) 10 (by decide) (λ(v58,v59)=>(v59.length:Int)<=v4.length+0+1*v58) (T:=λr=>r.length<=v4.length+11) tB tB tZ ?_) ?_
 ·rintro⟨v58,v59⟩ hI h0 h1
  try dsimp only at hI h0 h1 ⊢
  refine(tLF60_1_65 kv0 tI h0 h1).mono ?_
  exact tM
 ·rintro v60 ho61
  try dsimp only at ho61 ⊢
  exact(tJF60_1_7 kv0 tI).mono tM
theorem tLF60_1_122 {v0 v1} {v115:Int} {v116:List G159} (kv0:okG27 v0) (kl:v116.length+1<=500000000000) (b0:0<=v115) (b1:v115<=4):Tot (LF60_1_122 v0 v1 v115 v116) (λr=>match r with|.inl r=>(r.1=v115+1/\v115<4)/\r.2.length<=v116.length+1|.inr r=>r.length<=v116.length+1):=by
 refine t_bd (λc38=>?_) λc38=>?_
 ·have lc38:=(kv0.fh).le
  refine t_bi (Xg (kv0.fh) tI tI) λv124 hv124 ov124=>?_
  refine Xb (tF124 hv124.fau) λv126 hv126=>?_
  refine Xc (λc39=>?_) λc39=>?_
  ·refine Xb (Xz kv0 tI) λv134 hv134=>?_
   exact tL
  ·refine Xb (Wk) λv136 hv136=>?_
   refine Xc (λc40=>?_) λc40=>?_
   ·refine Xb (Xz kv0 tI) λv144 hv144=>?_
    exact tL
   ·refine Xb (tF126) λv146 hv146=>?_
    refine Xb (Xz kv0 tI) λv153 hv153=>?_
    exact tL
 ·have lb41:=(kv0.fh).le
  exact tL
theorem tF60_1 {v0 v1} {v2:List G159} (kv0:okG27 v0) (kl:v2.length+17<=500000000000):Tot (F60_1 v0 v1 v2) (λr=>r.length<=v2.length+17):=by
 refine Xb (Xe (λ(v115,v116)=>v115) 4 (by decide) (λ(v115,v116)=>(v116.length:Int)<=v2.length+0+1*v115) (T:=λr=>r.length<=v2.length+5) tB tB tZ ?_) ?_
 ·rintro⟨v115,v116⟩ hI h0 h1
  try dsimp only at hI h0 h1 ⊢
  refine(tLF60_1_122 kv0 tI h0 h1).mono ?_
  exact tM
 ·rintro v117 ho118
  try dsimp only at ho118 ⊢
  exact(tJF60_1_5 kv0 tI).mono tM
theorem tR127_0_1 {v0 v1 v2 v3 v4 v5 v6 v7 v8} {v9:List G58} (kv8:okG27 v8) (kl:v9.length+1<=500000000000):Tot (Un v0 v1 v2 v3 v4 v5 v6 v7 v8 v9) (λr=>r.length<=v9.length+1):=by
 refine Xb (t_gappK 1 (h:=tI)) λv12 hv12=>?_
 exact tL
theorem tLF276_1_14 {v0} {v7:Int} {v8:List G58} (kv0:okG27 v0) (kl:v8.length+1<=500000000000) (b0:0<=v7) (b1:v7<=10):Tot (LF276_1_14 v0 v7 v8) (λr=>match r with|.inl r=>(r.1=v7+1/\v7<10)/\r.2.length<=v8.length+1|.inr r=>r.length<=v8.length+1):=by
 refine t_bd (λc43=>?_) λc43=>?_
 ·have lc43:=(kv0.fi).le
  refine t_bi (Xg (kv0.fi) tI tI) λv16 hv16 ov16=>?_
  refine Xb (tR127_0_1 kv0 tI) λv28 hv28=>?_
  exact tL
 ·have lb44:=(kv0.fi).le
  exact tL
theorem tJF276_1_6 {v0} {v5:List G58} (kv0:okG27 v0) (kl:v5.length+11<=500000000000):Tot (JF276_1_6 v0 v5) (λr=>r.length<=v5.length+11):=by
 refine Xb (Xe (λ(v7,v8)=>v7) 10 (by decide) (λ(v7,v8)=>(v8.length:Int)<=v5.length+0+1*v7) (T:=λr=>r.length<=v5.length+11) tB tB tZ ?_) ?_
 ·rintro⟨v7,v8⟩ hI h0 h1
  try dsimp only at hI h0 h1 ⊢
  refine(tLF276_1_14 kv0 tI h0 h1).mono ?_
  exact tM
 ·rintro v9 ho10
  try dsimp only at ho10 ⊢
  exact tL
theorem tJF276_1_40 {v30:Int} {v39:List G58} (kl:v39.length+0<=500000000000) (b0:0<=v30) (b1:v30<10):Tot (JF276_1_40 v30 v39) (λr=>match r with|.inl r=>(r.1=v30+1/\v30<10)/\r.2.length<=v39.length+0|.inr r=>r.length<=v39.length+0):=by
 exact tL
theorem tJF276_1_67 {v57:Int} {v66:List G58} (kl:v66.length+0<=500000000000) (b0:0<=v57) (b1:v57<5):Tot (JF276_1_67 v57 v66) (λr=>match r with|.inl r=>(r.1=v57+1/\v57<5)/\r.2.length<=v66.length+0|.inr r=>r.length<=v66.length+0):=by
 exact tL
theorem tJF276_1_82 {v72:Int} {v81:List G58} (kl:v81.length+0<=500000000000) (b0:0<=v72) (b1:v72<3):Tot (JF276_1_82 v72 v81) (λr=>match r with|.inl r=>(r.1=v72+1/\v72<3)/\r.2.length<=v81.length+0|.inr r=>r.length<=v81.length+0):=by
 exact tL
theorem tLF276_1_96 {v87:G100} {v0:G27} {v30:Int} {v57:Int} {v72:Int} {v89:Int} {v90:List G58} (kv87:okG100 v87) (kv0:okG27 v0) (kl:v90.length+1<=500000000000) (q0:0<=v30/\v30<ln v0.fc) (q1:∀ v98,gx (Sl.es v0.fc) v30=some v98->0<=v57/\v57<ln v98.fe) (q2:∀ v98,gx (Sl.es v0.fc) v30=some v98->∀ v100,gx (Sl.es v98.fe) v57=some v100->0<=v72/\v72<ln v100.ff) (q3:∀ v98,gx (Sl.es v0.fc) v30=some v98->∀ v100,gx (Sl.es v98.fe) v57=some v100->∀ v102,gx (Sl.es v100.ff) v72=some v102->v102=v87) (b0:0<=v89) (b1:v89<=1000):Tot (LF276_1_96 v87 v0 v30 v57 v72 v89 v90) (λr=>match r with|.inl r=>(r.1=v89+1/\v89<1000)/\r.2.length<=v90.length+1|.inr r=>r.length<=v90.length+1):=by
 refine t_bd (λc46=>?_) λc46=>?_
 ·have lc46:=(kv87.fg).le
  refine t_bi (Xg (kv0.fc) tI tI) λv98 hv98 ov98=>?_
  have qq48:=q1 v98 ov98
  refine t_bi (Xg (hv98.fe) tI tI) λv100 hv100 ov100=>?_
  have qq49:=q2 v98 ov98 v100 ov100
  refine t_bi (Xg (hv100.ff) tI tI) λv102 hv102 ov102=>?_
  have qq50:ln v102.fg=ln v87.fg:=congrArg (λz=>ln z.fg) (q3 v98 ov98 v100 ov100 v102 ov102)
  refine t_bi (Xg (hv102.fg) tI tI) λv104 hv104 ov104=>?_
  refine Xb (tR127_0_1 kv0 tI) λv116 hv116=>?_
  exact tL
 ·have lb51:=(kv87.fg).le
  exact tL
theorem tLF276_1_79 {v70:G95} {v0:G27} {v30:Int} {v57:Int} {v72:Int} {v73:List G58} (kv70:okG95 v70) (kv0:okG27 v0) (kl:v73.length+1001<=500000000000) (q0:0<=v30/\v30<ln v0.fc) (q1:∀ v83,gx (Sl.es v0.fc) v30=some v83->0<=v57/\v57<ln v83.fe) (q2:∀ v83,gx (Sl.es v0.fc) v30=some v83->∀ v85,gx (Sl.es v83.fe) v57=some v85->v85=v70) (b0:0<=v72) (b1:v72<=3):Tot (LF276_1_79 v70 v0 v30 v57 v72 v73) (λr=>match r with|.inl r=>(r.1=v72+1/\v72<3)/\r.2.length<=v73.length+1001|.inr r=>r.length<=v73.length+1001):=by
 refine t_bd (λc52=>?_) λc52=>?_
 ·have lc52:=(kv70.ff).le
  refine t_bi (Xg (kv0.fc) tI tI) λv83 hv83 ov83=>?_
  have qq54:=q1 v83 ov83
  refine t_bi (Xg (hv83.fe) tI tI) λv85 hv85 ov85=>?_
  have qq55:ln v85.ff=ln v70.ff:=congrArg (λz=>ln z.ff) (q2 v83 ov83 v85 ov85)
  refine t_bi (Xg (hv85.ff) tI tI) λv87 hv87 ov87=>?_
  have qq58:=q1 v83 ov83
  have qq61:ln v85.ff=ln v70.ff:=congrArg (λz=>ln z.ff) (q2 v83 ov83 v85 ov85)
  refine Xb (Xe (λ(v89,v90)=>v89) 1000 (by decide) (λ(v89,v90)=>(v90.length:Int)<=v73.length+0+1*v89) (T:=λr=>r.length<=v73.length+1001) tB tB tZ ?_) ?_
  ·rintro⟨v89,v90⟩ hI h0 h1
   try dsimp only at hI h0 h1 ⊢
   refine(tLF276_1_96 hv87 kv0 tI tI (oq ov83 tI) (oq ov83 (oq ov85 tI)) (by intro y62 g62;obtain rfl:=Option.some.inj (ov83.symm.trans g62);intro y63 g63;obtain rfl:=Option.some.inj (ov85.symm.trans g63);intro y64 g64;obtain rfl:=Option.some.inj (ov87.symm.trans g64);rfl) h0 h1).mono ?_
   exact tM
  ·rintro v91 ho92
   try dsimp only at ho92 ⊢
   exact(tJF276_1_82 tI tI tI).mono tM
 ·have lb66:=(kv70.ff).le
  exact tL
theorem tLF276_1_64 {v55:G75} {v0:G27} {v30:Int} {v57:Int} {v58:List G58} (kv55:okG75 v55) (kv0:okG27 v0) (kl:v58.length+4004<=500000000000) (q0:0<=v30/\v30<ln v0.fc) (q1:∀ v68,gx (Sl.es v0.fc) v30=some v68->v68=v55) (b0:0<=v57) (b1:v57<=5):Tot (LF276_1_64 v55 v0 v30 v57 v58) (λr=>match r with|.inl r=>(r.1=v57+1/\v57<5)/\r.2.length<=v58.length+4004|.inr r=>r.length<=v58.length+4004):=by
 refine t_bd (λc67=>?_) λc67=>?_
 ·have lc67:=(kv55.fe).le
  refine t_bi (Xg (kv0.fc) tI tI) λv68 hv68 ov68=>?_
  have qq69:ln v68.fe=ln v55.fe:=congrArg (λz=>ln z.fe) (q1 v68 ov68)
  refine t_bi (Xg (hv68.fe) tI tI) λv70 hv70 ov70=>?_
  have qq72:ln v68.fe=ln v55.fe:=congrArg (λz=>ln z.fe) (q1 v68 ov68)
  refine Xb (Xe (λ(v72,v73)=>v72) 3 (by decide) (λ(v72,v73)=>(v73.length:Int)<=v58.length+0+1001*v72) (T:=λr=>r.length<=v58.length+4004) tB tB tZ ?_) ?_
  ·rintro⟨v72,v73⟩ hI h0 h1
   try dsimp only at hI h0 h1 ⊢
   refine(tLF276_1_79 hv70 kv0 tI tI (oq ov68 tI) (oq ov68 (oq ov70 rfl)) h0 h1).mono ?_
   exact tM
  ·rintro v74 ho75
   try dsimp only at ho75 ⊢
   exact(tJF276_1_67 tI tI tI).mono tM
 ·have lb76:=(kv55.fe).le
  exact tL
theorem tLF276_1_37 {v0} {v30:Int} {v31:List G58} (kv0:okG27 v0) (kl:v31.length+24025<=500000000000) (b0:0<=v30) (b1:v30<=10):Tot (LF276_1_37 v0 v30 v31) (λr=>match r with|.inl r=>(r.1=v30+1/\v30<10)/\r.2.length<=v31.length+24025|.inr r=>r.length<=v31.length+24025):=by
 refine t_bd (λc77=>?_) λc77=>?_
 ·have lc77:=(kv0.fc).le
  refine t_bi (Xg (kv0.fc) tI tI) λv41 hv41 ov41=>?_
  refine Xb (tR127_0_1 kv0 tI) λv53 hv53=>?_
  refine t_bi (Xg (kv0.fc) tI tI) λv55 hv55 ov55=>?_
  obtain rfl:=Option.some.inj (ov41.symm.trans ov55)
  refine Xb (Xe (λ(v57,v58)=>v57) 5 (by decide) (λ(v57,v58)=>(v58.length:Int)<=v53.length+0+4004*v57) (T:=λr=>r.length<=v53.length+24024) tB tB tZ ?_) ?_
  ·rintro⟨v57,v58⟩ hI h0 h1
   try dsimp only at hI h0 h1 ⊢
   refine(tLF276_1_64 hv41 kv0 tI tI (oq ov41 rfl) h0 h1).mono ?_
   exact tM
  ·rintro v59 ho60
   try dsimp only at ho60 ⊢
   exact(tJF276_1_40 tI tI tI).mono tM
 ·have lb80:=(kv0.fc).le
  exact tL
theorem tJF276_1_4 {v0} {v3:List G58} (kv0:okG27 v0) (kl:v3.length+264286<=500000000000):Tot (JF276_1_4 v0 v3) (λr=>r.length<=v3.length+264286):=by
 refine Xb (Xe (λ(v30,v31)=>v30) 10 (by decide) (λ(v30,v31)=>(v31.length:Int)<=v3.length+0+24025*v30) (T:=λr=>r.length<=v3.length+264275) tB tB tZ ?_) ?_
 ·rintro⟨v30,v31⟩ hI h0 h1
  try dsimp only at hI h0 h1 ⊢
  refine(tLF276_1_37 kv0 tI h0 h1).mono ?_
  exact tM
 ·rintro v32 ho33
  try dsimp only at ho33 ⊢
  exact(tJF276_1_6 kv0 tI).mono tM
theorem tJF276_1_130 {v119:Int} {v128} {v129:List G58} (kl:v129.length+0<=500000000000) (b0:0<=v119) (b1:v119<4):Tot (JF276_1_130 v119 v128 v129) (λr=>match r with|.inl r=>True/\(r.2.1=v119+1/\v119<4)/\r.2.2.length<=v129.length+0|.inr r=>r.length<=v129.length+0):=by
 exact tL
theorem tLF276_1_156 {v145:G68} {v0:G27} {v119:Int} {v147} {v148:Int} {v149:List G58} (kv145:okG68 v145) (kv0:okG27 v0) (kl:v149.length+1<=500000000000) (q0:0<=v119/\v119<ln v0.fh) (q1:∀ v158,gx (Sl.es v0.fh) v119=some v158->v158=v145) (b0:0<=v148) (b1:v148<=5):Tot (LF276_1_156 v145 v0 v119 v147 v148 v149) (λr=>match r with|.inl r=>True/\(r.2.1=v148+1/\v148<5)/\r.2.2.length<=v149.length+1|.inr r=>True/\r.2.length<=v149.length+1):=by
 refine t_bd (λc82=>?_) λc82=>?_
 ·have lc82:=(kv145.ft).le
  refine t_bi (Xg (kv0.fh) tI tI) λv158 hv158 ov158=>?_
  have qq84:ln v158.ft=ln v145.ft:=congrArg (λz=>ln z.ft) (q1 v158 ov158)
  refine t_bi (Xg (hv158.ft) tI tI) λv160 hv160 ov160=>?_
  refine Xb (tR127_0_1 kv0 tI) λv172 hv172=>?_
  exact tL
 ·have lb85:=(kv145.ft).le
  exact tL
theorem tLF276_1_126 {v0 v118} {v119:Int} {v120:List G58} (kv0:okG27 v0) (kl:v120.length+7<=500000000000) (b0:0<=v119) (b1:v119<=4):Tot (LF276_1_126 v0 v118 v119 v120) (λr=>match r with|.inl r=>True/\(r.2.1=v119+1/\v119<4)/\r.2.2.length<=v120.length+7|.inr r=>r.length<=v120.length+7):=by
 refine t_bd (λc86=>?_) λc86=>?_
 ·have lc86:=(kv0.fh).le
  refine t_bi (Xg (kv0.fh) tI tI) λv131 hv131 ov131=>?_
  refine Xb (tR127_0_1 kv0 tI) λv143 hv143=>?_
  refine t_bi (Xg (kv0.fh) tI tI) λv145 hv145 ov145=>?_
  obtain rfl:=Option.some.inj (ov131.symm.trans ov145)
  refine Xb (Xe (λ(v147,v148,v149)=>v148) 5 (by decide) (λ(v147,v148,v149)=>(v149.length:Int)<=v143.length+0+1*v148) (T:=λr=>True/\r.2.length<=v143.length+6) tB tB tZ ?_) ?_
  ·rintro⟨v147,v148,v149⟩ hI h0 h1
   try dsimp only at hI h0 h1 ⊢
   refine(tLF276_1_156 hv131 kv0 tI tI (oq ov131 rfl) h0 h1).mono ?_
   exact tM
  ·rintro⟨v150,v151⟩ ho152
   try dsimp only at ho152 ⊢
   obtain⟨ho152_0,ho152_1⟩:=ho152
   exact(tJF276_1_130 tI tI tI).mono tM
 ·have lb89:=(kv0.fh).le
  exact tL
theorem tF276_1 {v0} {v1:List G58} (kv0:okG27 v0) (kl:v1.length+264321<=500000000000):Tot (F276_1 v0 v1) (λr=>r.length<=v1.length+264321):=by
 refine Xb (Xe (λ(v118,v119,v120)=>v119) 4 (by decide) (λ(v118,v119,v120)=>(v120.length:Int)<=v1.length+0+7*v119) (T:=λr=>r.length<=v1.length+35) tB tB tZ ?_) ?_
 ·rintro⟨v118,v119,v120⟩ hI h0 h1
  try dsimp only at hI h0 h1 ⊢
  refine(tLF276_1_126 kv0 tI h0 h1).mono ?_
  exact tM
 ·rintro v121 ho122
  try dsimp only at ho122 ⊢
  exact(tJF276_1_4 kv0 tI).mono tM
theorem tJF127_2 {v1:List G58} (kl:v1.length+0<=500000000000):Tot (JF127_2 v1) (λr=>ln r<=v1.length+0):=by
 exact tL
theorem tF127 {v0} (kv0:okG27 v0):Tot (F127 v0) (λr=>ln r<=264321):=by
 refine Xb (tF276_1 kv0 tI) λv5 hv5=>?_
 simp only[List.length_nil,Nat.zero_add]at hv5
 exact(tJF127_2 tI).mono tM
theorem tF128 {v0}:Tot (F128 v0) (λ_=>True):=by
 refine Xb (Wk) λv1 hv1=>?_
 refine Xc (λc91=>?_) λc91=>?_
 ·refine Xb (Wk) λv4 hv4=>?_
  exact tL
 ·exact tL
theorem tJF129_2:Tot (JF129_2 ) (λ_=>True):=by
 exact tL
theorem tLF129_9 {v0 v1} {v3:Int} (kv0:okG27 v0) (b0:0<=v3) (b1:v3<=5):Tot (LF129_9 v0 v1 v3) (λr=>match r with|.inl r=>(r=v3+1/\v3<5)|.inr (.inl r)=>True|.inr (.inr r)=>True):=by
 refine t_bd (λc92=>?_) λc92=>?_
 ·have lc92:=(kv0.fF).le
  refine t_bi (Xg (kv0.fF) tI tI) λv11 hv11 ov11=>?_
  refine t_be (λc93=>?_) λc93=>?_
  ·exact tL
  ·exact tL
 ·have lb94:=(kv0.fF).le
  exact tL
theorem tF129 {v0 v1} (kv0:okG27 v0):Tot (F129 v0 v1) (λ_=>True):=by
 refine Xb (Xe (λv3=>v3) 5 (by decide) (λv3=>True) (T:=tru) tB tB tZ ?_) ?_
 ·rintro v3 hI h0 h1
  refine(tLF129_9 kv0 h0 h1).mono ?_
  exact tM
 ·rintro(v4|⟨⟩) ho5
  ·try dsimp only at ho5 ⊢
   exact tL
  ·try dsimp only at ho5 ⊢
   exact tJF129_2
theorem tJF61_1_7 {v0 v1} {v4:List G159} {v6} (kv0:okG27 v0) (kl:v4.length+1<=500000000000):Tot (JF61_1_7 v0 v1 v4 v6) (λr=>r.length<=v4.length+1):=by
 refine Xb (tF123_2 kv0 tI) λv14 hv14=>?_
 exact tL
theorem tLF61_1_23 {v0 v16} {v17:Int} (kv0:okG27 v0) (b0:0<=v17) (b1:v17<=5):Tot (LF61_1_23 v0 v16 v17) (λr=>match r with|.inl r=>True/\(r.2=v17+1/\v17<5)|.inr r=>True):=by
 refine t_bd (λc96=>?_) λc96=>?_
 ·have lc96:=(kv0.fF).le
  refine t_bi (Xg (kv0.fF) tI tI) λv25 hv25 ov25=>?_
  refine Xc (λc97=>?_) λc97=>?_
  ·exact tL
  ·refine Xb (tF128) λv28 hv28=>?_
   refine Xc (λc98=>?_) λc98=>?_
   ·exact tL
   ·refine t_bd (λc99=>?_) λc99=>?_
    ·refine t_bi (Xg (kv0.fF) tI tI) λv32 hv32 ov32=>?_
     exact tL
    ·exact tL
 ·have lb100:=(kv0.fF).le
  exact tL
theorem tJF61_1_5 {v0 v1} {v4:List G159} (kv0:okG27 v0) (kl:v4.length+1<=500000000000):Tot (JF61_1_5 v0 v1 v4) (λr=>r.length<=v4.length+1):=by
 refine Xb (Xe (λ(v16,v17)=>v17) 5 (by decide) (λ(v16,v17)=>True) (T:=tru) tB tB tZ ?_) ?_
 ·rintro⟨v16,v17⟩ hI h0 h1
  refine(tLF61_1_23 kv0 h0 h1).mono ?_
  exact tM
 ·rintro v18 ho19
  exact(tJF61_1_7 kv0 tI).mono tM
theorem tLF61_1_44 {v34:Sl G58} {v0 v1} {v36:Int} {v37:List G159} {v38} (kv34:(OkSl (λ_=>True) 1000000) v34) (kv0:okG27 v0) (kv38:GM.ok v38) (kl:v37.length+1<=500000000000) (b0:0<=v36) (b1:v36<=1000000):Tot (LF61_1_44 v34 v0 v1 v36 v37 v38) (λr=>match r with|.inl r=>(r.1=v36+1/\v36<1000000)/\r.2.1.length<=v37.length+1/\GM.ok r.2.2|.inr r=>r.length<=v37.length+1):=by
 refine t_bd (λc102=>?_) λc102=>?_
 ·have lc102:=(kv34).le
  refine t_bi (Xg kv34 tI tI) λv46 hv46 ov46=>?_
  refine Xb (tF128) λv48 hv48=>?_
  refine Xc (λc103=>?_) λc103=>?_
  ·refine Xb (Xz kv0 tI) λv56 hv56=>?_
   exact tL
  ·refine Xb (t_gmGet (by assumption)) λv58 hv58=>?_
   refine Xc (λc104=>?_) λc104=>?_
   ·refine Xb (Xz kv0 tI) λv66 hv66=>?_
    exact tL
   ·refine Xb (tF129 kv0) λv68 hv68=>?_
    refine Xb (Xz kv0 tI) λv75 hv75=>?_
    exact tL
 ·have lb105:=(kv34).le
  exact tL
theorem tF61_1 {v0 v1} {v2:List G159} (kv0:okG27 v0) (kl:v2.length+1000002<=500000000000):Tot (F61_1 v0 v1 v2) (λr=>r.length<=v2.length+1000002):=by
 refine Xb (tF127 kv0) λv34 hv34=>?_
 refine Xb (Xe (λ(v36,v37,v38)=>v36) 1000000 (by decide) (λ(v36,v37,v38)=>(v37.length:Int)<=v2.length+0+1*v36/\GM.ok v38) (T:=λr=>r.length<=v2.length+1000001) tB tB tZ ?_) ?_
 ·rintro⟨v36,v37,v38⟩ hI h0 h1
  try dsimp only at hI h0 h1 ⊢
  refine(tLF61_1_44 (OkSl.tr (s:=v34) (n:=1000000) tI) kv0 (by first|exact hI|exact hI.1|exact hI.2|exact hI.2.1) tI h0 h1).mono ?_
  exact tM
 ·rintro v39 ho40
  try dsimp only at ho40 ⊢
  exact(tJF61_1_5 kv0 tI).mono tM
theorem tLF130_10 {v0 v3} {v4:Int} (kv0:okG27 v0) (b0:0<=v4) (b1:v4<=4):Tot (LF130_10 v0 v3 v4) (λr=>match r with|.inl r=>True/\(r.2=v4+1/\v4<4)|.inr r=>True):=by
 refine t_bd (λc107=>?_) λc107=>?_
 ·have lc107:=(kv0.fh).le
  refine t_bi (Xg (kv0.fh) tI tI) λv12 hv12 ov12=>?_
  exact tL
 ·have lb108:=(kv0.fh).le
  exact tL
theorem tF130w {v0:G27} (kv0:okG27 v0):Tot (F130 v0) (λr=>0<=r/\r<=20):=by
 refine Xb (Xe (λ(_,v4)=>v4) 4 (by decide) (λ(v3,v4)=>0<=v3/\v3<=5*v4) (T:=λr=>0<=r/\r<=20) (by decide) (by decide) (by decide) ?_) λo ho=>Xd ho
 rintro⟨v3,v4⟩ hI h0 h1
 dsimp only at hI h0 h1 ⊢
 have lb:=(kv0.fh).le
 refine t_bd (λc=>?_) λc=>Xd (by show 0<=v3/\v3<=20;omega)
 refine Xb (Xg kv0.fh h0 c) λv12 h12=>?_
 have l2:=(h12.1.ft).le
 have e1:=Xr (n:=v3+ln v12.ft) (by omega) (by omega)
 have e2:=Xr (n:=v4+1) (by omega) (by omega)
 exact Xd ⟨by show 0<=wi (v3+ln v12.ft)/\wi (v3+ln v12.ft)<=5*wi (v4+1);omega,e2,by show v4<4;omega⟩
theorem tF130 {v0} (kv0:okG27 v0):Tot (F130 v0) (λ_=>True):=by
 exact(tF130w kv0).mono λ_ _=>trivial
theorem tJF132_1_4 {v3}:Tot (JF132_1_4 v3) (λ_=>True):=by
 exact tL
theorem tJF132_1_15 {v6:Int} {v14} (b0:0<=v6) (b1:v6<5):Tot (JF132_1_15 v6 v14) (λr=>match r with|.inl r=>True/\(r.2=v6+1/\v6<5)|.inr r=>True):=by
 exact tL
theorem tLF132_1_27 {v16 v20} {v21:Int} (kv16:okG95 v16) (b0:0<=v21) (b1:v21<=3):Tot (LF132_1_27 v16 v20 v21) (λr=>match r with|.inl r=>True/\(r.2=v21+1/\v21<3)|.inr r=>True):=by
 refine t_bd (λc109=>?_) λc109=>?_
 ·have lc109:=(kv16.ff).le
  refine t_bi (Xg (kv16.ff) tI tI) λv29 hv29 ov29=>?_
  refine Xc (λc110=>?_) λc110=>?_
  ·exact tL
  ·refine t_be (λc111=>?_) λc111=>?_
   ·have lb112:=(hv29.fg).le
    exact tL
   ·have lb113:=(hv29.fg).le
    exact tL
 ·have lb114:=(kv16.ff).le
  exact tL
theorem Qh {v16} {v6:Int} {v18} (kv16:okG95 v16) (b0:0<=v6) (b1:v6<5):Tot (Vc v16 v6 v18) (λr=>match r with|.inl r=>True/\(r.2=v6+1/\v6<5)|.inr r=>True):=by
 refine Xb (Xe (λ(v20,v21)=>v21) 3 (by decide) (λ(v20,v21)=>True) (T:=tru) tB tB tZ ?_) ?_
 ·rintro⟨v20,v21⟩ hI h0 h1
  refine(tLF132_1_27 kv16 h0 h1).mono ?_
  exact tM
 ·rintro v22 ho23
  exact(tJF132_1_15 tI tI).mono tM
theorem tLF132_1_12 {v1 v5} {v6:Int} (kv1:okG75 v1) (b0:0<=v6) (b1:v6<=5):Tot (LF132_1_12 v1 v5 v6) (λr=>match r with|.inl r=>True/\(r.2=v6+1/\v6<5)|.inr r=>True):=by
 refine t_bd (λc116=>?_) λc116=>?_
 ·have lc116:=(kv1.fe).le
  refine t_bi (Xg (kv1.fe) tI tI) λv16 hv16 ov16=>?_
  refine Xc (λc117=>?_) λc117=>?_
  ·exact(Qh hv16 tI tI).mono tM
  ·refine t_be (λc118=>?_) λc118=>?_
   ·have lb119:=(hv16.ff).le
    exact(Qh hv16 tI tI).mono tM
   ·have lb120:=(hv16.ff).le
    refine t_bi (Xg (hv16.ff) tI tI) λv35 hv35 ov35=>?_
    refine t_be (λc121=>?_) λc121=>?_
    ·have lb122:=(hv35.fg).le
     exact(Qh hv16 tI tI).mono tM
    ·have lb123:=(hv35.fg).le
     refine t_bi (Xg (hv16.ff) tI tI) λv38 hv38 ov38=>?_
     exact(Qh hv16 tI tI).mono tM
 ·have lb124:=(kv1.fe).le
  exact tL
theorem tF132_1 {v0 v1 v2} (kv1:okG75 v1):Tot (F132_1 v0 v1 v2) (λ_=>True):=by
 refine Xb (Xe (λ(v5,v6)=>v6) 5 (by decide) (λ(v5,v6)=>True) (T:=tru) tB tB tZ ?_) ?_
 ·rintro⟨v5,v6⟩ hI h0 h1
  refine(tLF132_1_12 kv1 h0 h1).mono ?_
  exact tM
 ·rintro v7 ho8
  exact tJF132_1_4
theorem tLF131_1_12 {v0 v3 v1} {v5:Int} {v6:List G159} (kv0:okG27 v0) (kl:v6.length+1<=500000000000) (b0:0<=v5) (b1:v5<=10):Tot (LF131_1_12 v0 v3 v1 v5 v6) (λr=>match r with|.inl r=>(r.1=v5+1/\v5<10)/\r.2.length<=v6.length+1|.inr r=>r.length<=v6.length+1):=by
 refine t_bd (λc126=>?_) λc126=>?_
 ·have lc126:=(kv0.fc).le
  refine t_bi (Xg (kv0.fc) tI tI) λv14 hv14 ov14=>?_
  refine Xb (tF132_1 hv14) λv19 hv19=>?_
  refine Xb (Xz kv0 tI) λv26 hv26=>?_
  exact tL
 ·have lb127:=(kv0.fc).le
  exact tL
theorem tF131_1 {v0 v1} {v2:List G159} {v3} (kv0:okG27 v0) (kl:v2.length+11<=500000000000):Tot (F131_1 v0 v1 v2 v3) (λr=>r.length<=v2.length+11):=by
 refine Xb (Xe (λ(v5,v6)=>v5) 10 (by decide) (λ(v5,v6)=>(v6.length:Int)<=v2.length+0+1*v5) (T:=λr=>r.length<=v2.length+11) tB tB tZ ?_) ?_
 ·rintro⟨v5,v6⟩ hI h0 h1
  try dsimp only at hI h0 h1 ⊢
  refine(tLF131_1_12 kv0 tI h0 h1).mono ?_
  exact tM
 ·rintro v7 ho8
  try dsimp only at ho8 ⊢
  exact tL
theorem tF62_1 {v0 v1} {v2:List G159} (kv0:okG27 v0) (kl:v2.length+11<=500000000000):Tot (F62_1 v0 v1 v2) (λr=>r.length<=v2.length+11):=by
 refine Xb (tF130 kv0) λv4 hv4=>?_
 refine Xb (tF131_1 kv0 tI) λv10 hv10=>?_
 exact tL
theorem tF277:Tot (F277 ) (λr=>okG385 r):=by
 exact Xd ⟨⟨(by show ByteArray.size _<=1000;decide)⟩,⟨(by show ByteArray.size _<=1000;decide)⟩,⟨(by show ByteArray.size _<=1000;decide)⟩,⟨(by show ByteArray.size _<=1000;decide)⟩,⟨(by show ByteArray.size _<=1000;decide)⟩,⟨(by show ByteArray.size _<=1000;decide)⟩,⟨(by show ByteArray.size _<=1000;decide)⟩,⟨(by show ByteArray.size _<=1000;decide)⟩,⟨(by show ByteArray.size _<=1000;decide)⟩⟩
theorem tJF205_2 {v0:Int} {v1:Bool} (q0:v1=false->1<=v0/\v0<=9):Tot (JF205_2 v0 v1) (λr=>okG326 r.1/\True):=by
 refine Xc (λc=>?_) (λc=>?_)
 ·exact Xd ⟨⟨by show ByteArray.size _<=1000;decide⟩,trivial⟩
 ·have q:=q0 c
  refine Xb tF277 λv4 hv4=>?_
  refine Xb (t_gx (by rw[Xr (by omega) (by omega)];omega) (by rw[Xr (by omega) (by omega)];simp only[List.length_cons,List.length_nil];omega)) λv6 hv6=>?_
  have ho:okG326 v6:=by
   have:=hv6.1
   simp only[List.mem_cons,List.not_mem_nil,or_false]at this
   rcases this with h|h|h|h|h|h|h|h|h<;>subst h
   ·exact⟨hv4.a0.fK⟩
   ·exact⟨hv4.a1.fK⟩
   ·exact⟨hv4.a2.fK⟩
   ·exact⟨hv4.a3.fK⟩
   ·exact⟨hv4.a4.fK⟩
   ·exact⟨hv4.a5.fK⟩
   ·exact⟨hv4.a6.fK⟩
   ·exact⟨hv4.a7.fK⟩
   ·exact⟨hv4.a8.fK⟩
  exact Xd ⟨⟨ho.fK⟩,trivial⟩
theorem tF205 {v0}:Tot (F205 v0) (λr=>okG326 r.1/\True):=by
 refine t_bd (λc129=>?_) λc129=>?_
 ·exact(tJF205_2 tW).mono tM
 ·exact(tJF205_2 tW).mono tM
theorem tF133 {v0}:Tot (F133 v0) (λ_=>True):=by
 refine Xb (tF205) λv1 hv1=>?_
 obtain⟨hv1_0,hv1_1⟩:=hv1
 exact tL
theorem tJF172_4 {v0 v2 v3}:Tot (JF172_4 v0 v2 v3) (λ_=>True):=by
 refine t_be (λc130=>?_) λc130=>?_
 ·exact tL
 ·exact tL
theorem tJF172_19 {v8:Int} {v17 v18} (b0:0<=v8) (b1:v8<6):Tot (JF172_19 v8 v17 v18) (λr=>match r with|.inl r=>True/\True/\(r.2.2=v8+1/\v8<6)|.inr (.inl r)=>True|.inr (.inr r)=>True/\True):=by
 exact tL
theorem tJF172_23 {v20} {v8:Int} {v6 v7 v22} (b0:0<=v8) (b1:v8<6):Tot (JF172_23 v20 v8 v6 v7 v22) (λr=>match r with|.inl r=>True/\True/\(r.2.2=v8+1/\v8<6)|.inr (.inl r)=>True|.inr (.inr r)=>True/\True):=by
 refine Xc (λc131=>?_) λc131=>?_
 ·exact tL
 ·refine t_bd (λc132=>?_) λc132=>?_
  ·exact(tJF172_19 tI tI).mono tM
  ·exact(tJF172_19 tI tI).mono tM
theorem tLF172_15 {v0 v6 v7} {v8:Int} (b0:0<=v8) (b1:v8<=6):Tot (LF172_15 v0 v6 v7 v8) (λr=>match r with|.inl r=>True/\True/\(r.2.2=v8+1/\v8<6)|.inr (.inl r)=>True|.inr (.inr r)=>True/\True):=by
 refine t_bd (λc133=>?_) λc133=>?_
 ·refine Xb (t_gxL tI tI) λv20 hv20=>?_
  refine t_bd (λc134=>?_) λc134=>?_
  ·exact(tJF172_23 tI tI).mono tM
  ·refine t_bd (λc135=>?_) λc135=>?_
   ·exact(tJF172_23 tI tI).mono tM
   ·refine t_bd (λc136=>?_) λc136=>?_
    ·exact(tJF172_23 tI tI).mono tM
    ·exact(tJF172_23 tI tI).mono tM
 ·exact tL
theorem tF172 {v0}:Tot (F172 v0) (λ_=>True):=by
 refine Xc (λc137=>?_) λc137=>?_
 ·exact tL
 ·refine Xb (Xe (λ(v6,v7,v8)=>v8) 6 (by decide) (λ(v6,v7,v8)=>True) (T:=tru) tB tB tZ ?_) ?_
  ·rintro⟨v6,v7,v8⟩ hI h0 h1
   refine(tLF172_15 h0 h1).mono ?_
   exact tM
  ·rintro(⟨⟩|⟨v9,v10⟩) ho11
   ·try dsimp only at ho11 ⊢
    exact tL
   ·try dsimp only at ho11 ⊢
    exact tJF172_4
theorem tJF83_5 {v0 v4}:Tot (JF83_5 v0 v4) (λ_=>True):=by
 refine Xc (λc139=>?_) λc139=>?_
 ·exact tL
 ·refine Xb (tF172) λv7 hv7=>?_
  refine Xc (λc140=>?_) λc140=>?_
  ·exact tL
  ·exact tL
theorem tJF83_2 {v0 v1}:Tot (JF83_2 v0 v1) (λ_=>True):=by
 refine Xc (λc141=>?_) λc141=>?_
 ·exact tL
 ·refine t_bd (λc142=>?_) λc142=>?_
  ·exact tJF83_5
  ·refine t_bd (λc143=>?_) λc143=>?_
   ·exact tJF83_5
   ·exact tJF83_5
theorem tF83 {v0}:Tot (F83 v0) (λ_=>True):=by
 refine t_bd (λc144=>?_) λc144=>?_
 ·exact tJF83_2
 ·exact tJF83_2
theorem tF305 {v0:G71} (q0:v0.fD≠0):Tot (F305 v0) (λ_=>True):=by
 exact Xb (t_gq q0) λv1 _=>Xd trivial
theorem tF256 {v0:G71} (q0:v0.fD≠0):Tot (F256 v0) (λ_=>True):=by
 exact Xb (tF305 q0) λv1 _=>Xd trivial
theorem F181_zero {m:G71} (h:F83 m=some 0):1<=m.fD/\m.fD<=64/\1<=m.fE/\m.fE<=64:=by
 rcases cor h with⟨c,h⟩|⟨c,h⟩
 ·simp[JF83_2]at h
 ·unfold JF83_2 at h
  rcases cor h with⟨c1,h⟩|⟨c1,h⟩
  ·simp at h
  ·rcases cor h with⟨c2,h⟩|⟨c2,h⟩
   ·simp[JF83_5]at h
   ·rcases cor h with⟨c3,h⟩|⟨c3,h⟩
    ·simp[JF83_5]at h
    ·simp only[decide_eq_false_iff_not]at c c1 c2 c3
     omega
theorem tF187 {v0}:Tot (F187 v0) (λ_=>True):=by
 unfold F187
 obtain⟨z,ez,_⟩:=tF83 (v0:=v0)
 rw[ez]
 simp only[Option.bind_some]
 refine Xc (λc=>Xd trivial) λc=>?_
 have hz:z=0:=by simpa using c
 subst hz
 exact Xb (tF256 (by have:=F181_zero ez;omega)) λv4 _=>Xd trivial
theorem tJF99_4 {v3}:Tot (JF99_4 v3) (λ_=>True):=by
 refine t_bn (λc145=>?_) λc145=>?_
 ·exact tL
 ·refine t_bd (λc146=>?_) λc146=>?_
  ·exact tL
  ·exact tL
theorem tF99 {v0} (kv0:okG75 v0):Tot (F99 v0) (λ_=>True):=by
 refine Xb (tF187) λv1 hv1=>?_
 refine t_bn (λc147=>?_) λc147=>?_
 ·exact tL
 ·refine t_bd (λc148=>?_) λc148=>?_
  ·exact tL
  ·refine t_bd (λc149=>?_) λc149=>?_
   ·exact tJF99_4
   ·exact tJF99_4
theorem tJF134_5 {v2 v4}:Tot (JF134_5 v2 v4) (λ_=>True):=by
 refine Xc (λc150=>?_) λc150=>?_
 ·exact tL
 ·exact tL
theorem tJF134_17 {v8:Int} {v16} (b0:0<=v8) (b1:v8<5):Tot (JF134_17 v8 v16) (λr=>match r with|.inl r=>True/\(r.2=v8+1/\v8<5)|.inr r=>True):=by
 exact tL
theorem tLF134_27 {v18 v2 v20} {v21:Int} (kv18:okG95 v18) (b0:0<=v21) (b1:v21<=8):Tot (LF134_27 v18 v2 v20 v21) (λr=>match r with|.inl r=>True/\(r.2=v21+1/\v21<8)|.inr r=>True):=by
 refine t_bd (λc151=>?_) λc151=>?_
 ·have lc151:=(kv18.fQ).le
  refine t_bi (Xg (kv18.fQ) tI tI) λv29 hv29 ov29=>?_
  refine Xc (λc152=>?_) λc152=>?_
  ·exact tL
  ·refine Xb (tF133) λv32 hv32=>?_
   refine t_bn (λc153=>?_) λc153=>?_
   ·exact tL
   ·refine Xb (Wk) λv35 hv35=>?_
    refine Xc (λc154=>?_) λc154=>?_
    ·exact tL
    ·refine t_bd (λc155=>?_) λc155=>?_
     ·refine t_bi (Xg (kv18.fQ) tI tI) λv39 hv39 ov39=>?_
      exact tL
     ·exact tL
 ·have lb156:=(kv18.fQ).le
  exact tL
theorem tLF134_14 {v1 v2 v7} {v8:Int} (kv1:okG75 v1) (b0:0<=v8) (b1:v8<=5):Tot (LF134_14 v1 v2 v7 v8) (λr=>match r with|.inl r=>True/\(r.2=v8+1/\v8<5)|.inr r=>True):=by
 refine t_bd (λc157=>?_) λc157=>?_
 ·have lc157:=(kv1.fe).le
  refine t_bi (Xg (kv1.fe) tI tI) λv18 hv18 ov18=>?_
  refine Xb (Xe (λ(v20,v21)=>v21) 8 (by decide) (λ(v20,v21)=>True) (T:=tru) tB tB tZ ?_) ?_
  ·rintro⟨v20,v21⟩ hI h0 h1
   refine(tLF134_27 hv18 h0 h1).mono ?_
   exact tM
  ·rintro v22 ho23
   exact(tJF134_17 tI tI).mono tM
 ·have lb159:=(kv1.fe).le
  exact tL
theorem tF134 {v0 v1} (kv1:okG75 v1):Tot (F134 v0 v1) (λ_=>True):=by
 refine Xb (tF99 kv1) λv2 hv2=>?_
 refine Xb (Xe (λ(v7,v8)=>v8) 5 (by decide) (λ(v7,v8)=>True) (T:=tru) tB tB tZ ?_) ?_
 ·rintro⟨v7,v8⟩ hI h0 h1
  refine(tLF134_14 kv1 h0 h1).mono ?_
  exact tM
 ·rintro v9 ho10
  exact tJF134_5
theorem tLF131_2_11 {v0 v1} {v4:Int} {v5:List G159} (kv0:okG27 v0) (kl:v5.length+1<=500000000000) (b0:0<=v4) (b1:v4<=10):Tot (LF131_2_11 v0 v1 v4 v5) (λr=>match r with|.inl r=>(r.1=v4+1/\v4<10)/\r.2.length<=v5.length+1|.inr r=>r.length<=v5.length+1):=by
 refine t_bd (λc161=>?_) λc161=>?_
 ·have lc161:=(kv0.fc).le
  refine t_bi (Xg (kv0.fc) tI tI) λv13 hv13 ov13=>?_
  refine Xb (tF134 hv13) λv15 hv15=>?_
  refine Xb (Xz kv0 tI) λv22 hv22=>?_
  exact tL
 ·have lb162:=(kv0.fc).le
  exact tL
theorem tF131_2 {v0 v1} {v2:List G159} (kv0:okG27 v0) (kl:v2.length+11<=500000000000):Tot (F131_2 v0 v1 v2) (λr=>r.length<=v2.length+11):=by
 refine Xb (Xe (λ(v4,v5)=>v4) 10 (by decide) (λ(v4,v5)=>(v5.length:Int)<=v2.length+0+1*v4) (T:=λr=>r.length<=v2.length+11) tB tB tZ ?_) ?_
 ·rintro⟨v4,v5⟩ hI h0 h1
  try dsimp only at hI h0 h1 ⊢
  refine(tLF131_2_11 kv0 tI h0 h1).mono ?_
  exact tM
 ·rintro v6 ho7
  try dsimp only at ho7 ⊢
  exact tL
theorem tJF63_1_5 {v0 v1} {v4:List G159} (kv0:okG27 v0) (kl:v4.length+11<=500000000000):Tot (JF63_1_5 v0 v1 v4) (λr=>r.length<=v4.length+11):=by
 refine Xb (tF131_2 kv0 tI) λv9 hv9=>?_
 exact tL
theorem tJF63_1_21 {v11:Int} {v20:List G159} (kl:v20.length+0<=500000000000) (b0:0<=v11) (b1:v11<4):Tot (JF63_1_21 v11 v20) (λr=>match r with|.inl r=>(r.1=v11+1/\v11<4)/\r.2.length<=v20.length+0|.inr r=>r.length<=v20.length+0):=by
 exact tL
theorem tLF63_1_31 {v22 v0 v1} {v24:Int} {v25:List G159} (kv22:okG68 v22) (kv0:okG27 v0) (kl:v25.length+1<=500000000000) (b0:0<=v24) (b1:v24<=5):Tot (LF63_1_31 v22 v0 v1 v24 v25) (λr=>match r with|.inl r=>(r.1=v24+1/\v24<5)/\r.2.length<=v25.length+1|.inr r=>r.length<=v25.length+1):=by
 refine t_bd (λc164=>?_) λc164=>?_
 ·have lc164:=(kv22.ft).le
  refine t_bi (Xg (kv22.ft) tI tI) λv33 hv33 ov33=>?_
  refine Xb (tF133) λv35 hv35=>?_
  refine Xb (Xz kv0 tI) λv42 hv42=>?_
  exact tL
 ·have lb165:=(kv22.ft).le
  exact tL
theorem tLF63_1_18 {v0 v1} {v11:Int} {v12:List G159} (kv0:okG27 v0) (kl:v12.length+6<=500000000000) (b0:0<=v11) (b1:v11<=4):Tot (LF63_1_18 v0 v1 v11 v12) (λr=>match r with|.inl r=>(r.1=v11+1/\v11<4)/\r.2.length<=v12.length+6|.inr r=>r.length<=v12.length+6):=by
 refine t_bd (λc166=>?_) λc166=>?_
 ·have lc166:=(kv0.fh).le
  refine t_bi (Xg (kv0.fh) tI tI) λv22 hv22 ov22=>?_
  refine Xb (Xe (λ(v24,v25)=>v24) 5 (by decide) (λ(v24,v25)=>(v25.length:Int)<=v12.length+0+1*v24) (T:=λr=>r.length<=v12.length+6) tB tB tZ ?_) ?_
  ·rintro⟨v24,v25⟩ hI h0 h1
   try dsimp only at hI h0 h1 ⊢
   refine(tLF63_1_31 hv22 kv0 tI h0 h1).mono ?_
   exact tM
  ·rintro v26 ho27
   try dsimp only at ho27 ⊢
   exact(tJF63_1_21 tI tI tI).mono tM
 ·have lb168:=(kv0.fh).le
  exact tL
theorem tF63_1 {v0 v1} {v2:List G159} (kv0:okG27 v0) (kl:v2.length+41<=500000000000):Tot (F63_1 v0 v1 v2) (λr=>r.length<=v2.length+41):=by
 refine Xb (Xe (λ(v11,v12)=>v11) 4 (by decide) (λ(v11,v12)=>(v12.length:Int)<=v2.length+0+6*v11) (T:=λr=>r.length<=v2.length+30) tB tB tZ ?_) ?_
 ·rintro⟨v11,v12⟩ hI h0 h1
  try dsimp only at hI h0 h1 ⊢
  refine(tLF63_1_18 kv0 tI h0 h1).mono ?_
  exact tM
 ·rintro v13 ho14
  try dsimp only at ho14 ⊢
  exact(tJF63_1_5 kv0 tI).mono tM
theorem tJF78_2 {v1}:Tot (JF78_2 v1) (λ_=>True):=by
 refine Xc (λc170=>?_) λc170=>?_
 ·exact tL
 ·exact tL
theorem tF78 {v0}:Tot (F78 v0) (λ_=>True):=by
 refine t_bd (λc171=>?_) λc171=>?_
 ·exact tJF78_2
 ·exact tJF78_2
theorem tJF136_11 {v10}:Tot (JF136_11 v10) (λ_=>True):=by
 exact tL
theorem tL18 (v:Int) (b0:-100000<=v) (b1:v<=100000):Tot (Xh (λ(v12:Int)=>LF136_18 v12) v) (λr=>-7<=r/\r<=100000):=by
 refine Yo (λs=>-100000<=s/\s<=100000) (λs=>(100000-s).toNat) _ (λs hs=>?_) ⟨b0,b1⟩ (by omega)
 unfold LF136_18
 cases hc:decide (s<(-7))with
 |true=>
  have:=of_decide_eq_true hc
  left
  exact⟨s+12,by rw[Xr (by omega) (by omega)];rfl,⟨by omega,by omega⟩,by omega⟩
 |false=>
  have:=of_decide_eq_false hc
  right
  exact⟨s,rfl,by omega,hs.2⟩
theorem tL26 (v:Int) (b0:-100000<=v) (b1:v<=100000):Tot (Xh (λ(v20:Int)=>LF136_26 v20) v) (λr=>-100000<=r/\r<=7):=by
 refine Yo (λs=>-100000<=s/\s<=100000) (λs=>(100000+s).toNat) _ (λs hs=>?_) ⟨b0,b1⟩ (by omega)
 unfold LF136_26
 cases hc:decide (s>7)with
 |true=>
  have:=of_decide_eq_true hc
  left
  exact⟨s-12,by rw[Xr (by omega) (by omega)];rfl,⟨by omega,by omega⟩,by omega⟩
 |false=>
  have:=of_decide_eq_false hc
  right
  exact⟨s,rfl,hs.1,by omega⟩
theorem F146_zero {v:Int} (h:F78 v=some 0):-7<=v/\v<=7:=by
 unfold F78 JF78_2 at h
 cases h1:decide (v<(-7))with
 |true=>rw[h1]at h;have:=Option.some.inj h;omega
 |false=>
  rw[h1]at h
  cases h2:decide (v>7)with
  |true=>rw[h2]at h;have:=Option.some.inj h;omega
  |false=>have a:=of_decide_eq_false h1;have b:=of_decide_eq_false h2;omega
theorem tJF136_6w {v0:Int} {v1:G65} {b:Bool} (hv:-7<=v0/\v0<=7) (h:b=false->(-77<=v1.fae/\v1.fae<=77)/\-140<=v1.f1/\v1.f1<=140):Tot (JF136_6 v0 v1 b) λ_=>True:=by
 refine Xc (λc=>Xd trivial) λc=>?_
 have q:=h c
 have e1:wi (7*v1.f1)=7*v1.f1:=Xr (by omega) (by omega)
 have e2:wi (12*v1.fae)=12*v1.fae:=Xr (by omega) (by omega)
 rw[e1,e2,Xr (n:=7*v1.f1-12*v1.fae) (by omega) (by omega),Xr (by omega) (by omega)]
 refine Xb (tL26 _ (by omega) (by omega)) λv21 hv21=>?_
 show Tot (JF136_9 v21) _
 refine Xb (tL18 _ (by omega) (by omega)) λv13 hv13=>?_
 exact tJF136_11
theorem tF136 {v0 v1}:Tot (F136 v0 v1) (λ_=>True):=by
 unfold F136
 obtain⟨z,ez,_⟩:=tF78 (v0:=v0)
 rw[ez]
 simp only[Option.bind_some]
 refine Xc (λc=>Xd trivial) λc=>?_
 have hz:z=0:=by simpa using c
 subst hz
 have hv:=F146_zero ez
 refine Xc (λc1=>tJF136_6w hv (by intro h;cases h)) λc1=>?_
 refine Xc (λc2=>tJF136_6w hv (by intro h;cases h)) λc2=>?_
 refine Xc (λc3=>tJF136_6w hv (by intro h;cases h)) λc3=>?_
 refine tJF136_6w hv λg=>?_
 replace c1:=of_decide_eq_false c1
 replace c2:=of_decide_eq_false c2
 replace c3:=of_decide_eq_false c3
 replace g:=of_decide_eq_false g
 omega
theorem tJF135_1_10 {v9}:Tot (JF135_1_10 v9) (λ_=>True):=by
 exact tL
theorem tJF135_1_21 {v12:Int} {v20} (b0:0<=v12) (b1:v12<4):Tot (JF135_1_21 v12 v20) (λr=>match r with|.inl r=>True/\(r.2=v12+1/\v12<4)|.inr r=>True):=by
 exact tL
theorem tJF135_1_25 {v1 v22} {v12:Int} {v11 v24} (kv1:okG75 v1) (kv22:okG68 v22) (b0:0<=v12) (b1:v12<4):Tot (Wf v1 v22 v12 v11 v24) (λr=>match r with|.inl r=>True/\(r.2=v12+1/\v12<4)|.inr r=>True):=by
 refine Xc (λc173=>?_) λc173=>?_
 ·refine Xb (tF136) λv27 hv27=>?_
  exact(tJF135_1_21 tI tI).mono tM
 ·exact(tJF135_1_21 tI tI).mono tM
theorem tLF135_1_18 {v2 v1 v11} {v12:Int} (kv2:okG27 v2) (kv1:okG75 v1) (b0:0<=v12) (b1:v12<=4):Tot (LF135_1_18 v2 v1 v11 v12) (λr=>match r with|.inl r=>True/\(r.2=v12+1/\v12<4)|.inr r=>True):=by
 refine t_bd (λc174=>?_) λc174=>?_
 ·have lc174:=(kv2.fh).le
  refine t_bi (Xg (kv2.fh) tI tI) λv22 hv22 ov22=>?_
  refine Xc (λc175=>?_) λc175=>?_
  ·exact(tJF135_1_25 kv1 hv22 tI tI).mono tM
  ·exact(tJF135_1_25 kv1 hv22 tI tI).mono tM
 ·have lb176:=(kv2.fh).le
  exact tL
theorem tJF135_1_8 {v2 v1 v7} (kv2:okG27 v2) (kv1:okG75 v1):Tot (Ua v2 v1 v7) (λ_=>True):=by
 refine Xb (Xe (λ(v11,v12)=>v12) 4 (by decide) (λ(v11,v12)=>True) (T:=tru) tB tB tZ ?_) ?_
 ·rintro⟨v11,v12⟩ hI h0 h1
  refine(tLF135_1_18 kv2 kv1 h0 h1).mono ?_
  exact tM
 ·rintro v13 ho14
  exact tJF135_1_10
theorem tF135_1 {v0 v1 v2 v3} {v4:List G159} (kv1:okG75 v1) (kv2:okG27 v2) (kl:v4.length+0<=500000000000):Tot (F135_1 v0 v1 v2 v3 v4) (λ_=>True):=by
 refine Xb (tF99 kv1) λv5 hv5=>?_
 refine t_bn (λc178=>?_) λc178=>?_
 ·exact tJF135_1_8 kv2 kv1
 ·refine Xb (Wk) λv31 hv31=>?_
  exact tJF135_1_8 kv2 kv1
theorem tLF131_3_11 {v0 v1} {v4:Int} {v5:List G159} (kv0:okG27 v0) (kl:v5.length+1<=500000000000) (b0:0<=v4) (b1:v4<=10):Tot (Up v0 v1 v4 v5) (λr=>match r with|.inl r=>(r.1=v4+1/\v4<10)/\r.2.length<=v5.length+1|.inr r=>r.length<=v5.length+1):=by
 refine t_bd (λc179=>?_) λc179=>?_
 ·have lc179:=(kv0.fc).le
  refine t_bi (Xg (kv0.fc) tI tI) λv13 hv13 ov13=>?_
  refine Xb (tF135_1 hv13 kv0 tI) λv20 hv20=>?_
  refine Xb (Xz kv0 tI) λv27 hv27=>?_
  exact tL
 ·have lb180:=(kv0.fc).le
  exact tL
theorem tF131_3 {v0 v1} {v2:List G159} (kv0:okG27 v0) (kl:v2.length+11<=500000000000):Tot (F131_3 v0 v1 v2) (λr=>r.length<=v2.length+11):=by
 refine Xb (Xe (λ(v4,v5)=>v4) 10 (by decide) (λ(v4,v5)=>(v5.length:Int)<=v2.length+0+1*v4) (T:=λr=>r.length<=v2.length+11) tB tB tZ ?_) ?_
 ·rintro⟨v4,v5⟩ hI h0 h1
  try dsimp only at hI h0 h1 ⊢
  refine(tLF131_3_11 kv0 tI h0 h1).mono ?_
  exact tM
 ·rintro v6 ho7
  try dsimp only at ho7 ⊢
  exact tL
theorem tF64_1 {v0 v1} {v2:List G159} (kv0:okG27 v0) (kl:v2.length+11<=500000000000):Tot (F64_1 v0 v1 v2) (λr=>r.length<=v2.length+11):=by
 refine Xb (tF131_3 kv0 tI) λv7 hv7=>?_
 exact tL
theorem tJF215_3 {v2}:Tot (JF215_3 v2) (λ_=>True):=by
 refine Xc (λc182=>?_) λc182=>?_
 ·exact tL
 ·exact tL
theorem tF215 {v0 v1}:Tot (F215 v0 v1) (λ_=>True):=by
 refine t_bd (λc183=>?_) λc183=>?_
 ·exact tJF215_3
 ·exact tJF215_3
theorem tJF214_1:Tot (JF214_1 ) (λ_=>True):=by
 exact tL
theorem tLF214_8 {v0:Sl Int} {v2:Int} (kv0:(OkSl (λ_=>True) 1000) v0) (b0:0<=v2) (b1:v2<=1000):Tot (LF214_8 v0 v2) (λr=>match r with|.inl r=>(r=v2+1/\v2<1000)|.inr (.inl r)=>True|.inr (.inr r)=>True):=by
 refine t_bd (λc184=>?_) λc184=>?_
 ·have lc184:=(kv0).le
  refine t_bi (Xg kv0 tI tI) λv10 hv10 ov10=>?_
  refine t_bn (λc185=>?_) λc185=>?_
  ·exact tL
  ·exact tL
 ·have lb186:=(kv0).le
  exact tL
theorem tF214 {v0:Sl Int} (kv0:(OkSl (λ_=>True) 1000) v0):Tot (F214 v0) (λ_=>True):=by
 refine Xb (Xe (λv2=>v2) 1000 (by decide) (λv2=>True) (T:=tru) tB tB tZ ?_) ?_
 ·rintro v2 hI h0 h1
  refine(tLF214_8 kv0 h0 h1).mono ?_
  exact tM
 ·rintro(v3|⟨⟩) ho4
  ·try dsimp only at ho4 ⊢
   exact tL
  ·try dsimp only at ho4 ⊢
   exact tJF214_1
theorem tF216 {v0}:Tot (F216 v0) (λ_=>True):=by
 refine t_bd (λc188=>?_) λc188=>?_
 ·exact tL
 ·exact tL
theorem tF284 {v0}:Tot (F284 v0) (λ_=>True):=by
 refine t_bd (λc189=>?_) λc189=>?_
 ·exact tL
 ·exact tL
theorem tJF218_6 {v0 v4 v5} (kv0:okG147 v0):Tot (JF218_6 v0 v4 v5) (λr=>okG147 r):=by
 refine t_bn (λc190=>?_) λc190=>?_
 ·refine Xb (tF284) λv8 hv8=>?_
  exact Xd ⟨OkSl.nil,OkSl.nil,OkSl.nil⟩
 ·exact Xd ⟨OkSl.nil,OkSl.nil,OkSl.nil⟩
theorem tJF218_2 {v0 v1} (kv0:okG147 v0):Tot (JF218_2 v0 v1) (λr=>okG147 r):=by
 refine Xc (λc191=>?_) λc191=>?_
 ·exact Xd ⟨(kv0.fv).mono,(kv0.fS).mono,(kv0.fq).mono⟩
 ·refine t_bn (λc192=>?_) λc192=>?_
  ·exact(tJF218_6 kv0).mono tM
  ·exact(tJF218_6 kv0).mono tM
theorem tF218 {v0} (kv0:okG147 v0):Tot (F218 v0) (λr=>okG147 r):=by
 refine t_be (λc193=>?_) λc193=>?_
 ·exact(tJF218_2 kv0).mono tM
 ·refine Xb (tF216) λv12 hv12=>?_
  exact(tJF218_2 kv0).mono tM
theorem tJF281_3:Tot (JF281_3 ) (λ_=>True):=by
 exact tL
theorem tLF281_9 {v0:Sl G182} {v1:Sl G182} {v4:Int} (kv0:(OkSl (λ_=>True) 1000) v0) (kv1:(OkSl (λ_=>True) 1000) v1) (q0:ln v0=ln v1) (b0:0<=v4) (b1:v4<=1000):Tot (LF281_9 v0 v1 v4) (λr=>match r with|.inl r=>(r=v4+1/\v4<1000)|.inr (.inl r)=>True|.inr (.inr r)=>True):=by
 refine t_bd (λc194=>?_) λc194=>?_
 ·have lc194:=(kv0).le
  refine t_bi (Xg kv0 tI tI) λv11 hv11 ov11=>?_
  refine t_bi (Xg kv1 tI tI) λv13 hv13 ov13=>?_
  refine Xc (λc196=>?_) λc196=>?_
  ·exact tL
  ·exact tL
 ·have lb197:=(kv0).le
  exact tL
theorem tF281 {v0:Sl G182} {v1:Sl G182} (kv0:(OkSl (λ_=>True) 1000) v0) (kv1:(OkSl (λ_=>True) 1000) v1):Tot (F281 v0 v1) (λ_=>True):=by
 refine t_bn (λc198=>?_) λc198=>?_
 ·have lb199:=(kv0).le
  have lb200:=(kv1).le
  exact tL
 ·have lb201:=(kv0).le
  have lb202:=(kv1).le
  refine Xb (Xe (λv4=>v4) 1000 (by decide) (λv4=>True) (T:=tru) tB tB tZ ?_) ?_
  ·rintro v4 hI h0 h1
   refine(tLF281_9 kv0 kv1 tI h0 h1).mono ?_
   exact tM
  ·rintro(⟨⟩|⟨⟩) ho5
   ·try dsimp only at ho5 ⊢
    exact tL
   ·try dsimp only at ho5 ⊢
    exact tJF281_3
theorem tJF282_3:Tot (JF282_3 ) (λ_=>True):=by
 exact tL
theorem tLF282_9 {v0:Sl G245} {v1:Sl G245} {v4:Int} (kv0:(OkSl (λ_=>True) 1000) v0) (kv1:(OkSl (λ_=>True) 1000) v1) (q0:ln v0=ln v1) (b0:0<=v4) (b1:v4<=1000):Tot (LF282_9 v0 v1 v4) (λr=>match r with|.inl r=>(r=v4+1/\v4<1000)|.inr (.inl r)=>True|.inr (.inr r)=>True):=by
 refine t_bd (λc204=>?_) λc204=>?_
 ·have lc204:=(kv0).le
  refine t_bi (Xg kv0 tI tI) λv11 hv11 ov11=>?_
  refine t_bi (Xg kv1 tI tI) λv13 hv13 ov13=>?_
  refine Xc (λc206=>?_) λc206=>?_
  ·exact tL
  ·exact tL
 ·have lb207:=(kv0).le
  exact tL
theorem tF282 {v0:Sl G245} {v1:Sl G245} (kv0:(OkSl (λ_=>True) 1000) v0) (kv1:(OkSl (λ_=>True) 1000) v1):Tot (F282 v0 v1) (λ_=>True):=by
 refine t_bn (λc208=>?_) λc208=>?_
 ·have lb209:=(kv0).le
  have lb210:=(kv1).le
  exact tL
 ·have lb211:=(kv0).le
  have lb212:=(kv1).le
  refine Xb (Xe (λv4=>v4) 1000 (by decide) (λv4=>True) (T:=tru) tB tB tZ ?_) ?_
  ·rintro v4 hI h0 h1
   refine(tLF282_9 kv0 kv1 tI h0 h1).mono ?_
   exact tM
  ·rintro(⟨⟩|⟨⟩) ho5
   ·try dsimp only at ho5 ⊢
    exact tL
   ·try dsimp only at ho5 ⊢
    exact tJF282_3
theorem tJF283_3:Tot (JF283_3 ) (λ_=>True):=by
 exact tL
theorem tLF283_9 {v0:Sl G171} {v1:Sl G171} {v4:Int} (kv0:(OkSl okG171 1000) v0) (kv1:(OkSl okG171 1000) v1) (q0:ln v0=ln v1) (b0:0<=v4) (b1:v4<=1000):Tot (LF283_9 v0 v1 v4) (λr=>match r with|.inl r=>(r=v4+1/\v4<1000)|.inr (.inl r)=>True|.inr (.inr r)=>True):=by
 refine t_bd (λc214=>?_) λc214=>?_
 ·have lc214:=(kv0).le
  refine t_bi (Xg kv0 tI tI) λv11 hv11 ov11=>?_
  refine t_bi (Xg kv1 tI tI) λv13 hv13 ov13=>?_
  refine Xc (λc216=>?_) λc216=>?_
  ·exact tL
  ·exact tL
 ·have lb217:=(kv0).le
  exact tL
theorem tF283 {v0:Sl G171} {v1:Sl G171} (kv0:(OkSl okG171 1000) v0) (kv1:(OkSl okG171 1000) v1):Tot (F283 v0 v1) (λ_=>True):=by
 refine t_bn (λc218=>?_) λc218=>?_
 ·have lb219:=(kv0).le
  have lb220:=(kv1).le
  exact tL
 ·have lb221:=(kv0).le
  have lb222:=(kv1).le
  refine Xb (Xe (λv4=>v4) 1000 (by decide) (λv4=>True) (T:=tru) tB tB tZ ?_) ?_
  ·rintro v4 hI h0 h1
   refine(tLF283_9 kv0 kv1 tI h0 h1).mono ?_
   exact tM
  ·rintro(⟨⟩|⟨⟩) ho5
   ·try dsimp only at ho5 ⊢
    exact tL
   ·try dsimp only at ho5 ⊢
    exact tJF283_3
theorem Zz {v2}:Tot (Wd v2) (λ_=>True):=by
 exact tL
theorem tF217 {v0 v1} (kv0:okG147 v0) (kv1:okG147 v1):Tot (F217 v0 v1) (λ_=>True):=by
 refine t_be (λc224=>?_) λc224=>?_
 ·refine Xc (λc225=>?_) λc225=>?_
  ·refine t_be (λc226=>?_) λc226=>?_
   ·refine t_be (λc227=>?_) λc227=>?_
    ·refine t_be (λc228=>?_) λc228=>?_
     ·refine t_be (λc229=>?_) λc229=>?_
      ·refine t_be (λc230=>?_) λc230=>?_
       ·refine Xb (tF281 (kv0.fv).mono (kv1.fv).mono) λv11 hv11=>?_
        refine Xc (λc231=>?_) λc231=>?_
        ·refine Xb (tF282 (kv0.fS).mono (kv1.fS).mono) λv14 hv14=>?_
         refine Xc (λc232=>?_) λc232=>?_
         ·refine Xb (tF283 (kv0.fq).mono (kv1.fq).mono) λv17 hv17=>?_
          exact Zz
         ·exact Zz
        ·exact Zz
       ·exact Zz
      ·exact Zz
     ·exact Zz
    ·exact Zz
   ·exact Zz
  ·exact Zz
 ·exact Zz
theorem tJF219_2 {v1}:Tot (Vi v1) (λ_=>True):=by
 refine Xc (λc233=>?_) λc233=>?_
 ·exact tL
 ·exact tL
theorem tF219 {v0}:Tot (F219 v0) (λ_=>True):=by
 refine t_bd (λc234=>?_) λc234=>?_
 ·exact tJF219_2
 ·refine t_bd (λc235=>?_) λc235=>?_
  ·exact tJF219_2
  ·refine t_bd (λc236=>?_) λc236=>?_
   ·exact tJF219_2
   ·exact tJF219_2
theorem tF243:Tot (F243 ) (λ_=>True):=by
 exact tL
theorem tF169 {v0:G80} (q0:0<=v0.fW/\v0.fW<=6):Tot (F169 v0) (λ_=>True):=by
 refine Xb tF243 λv1 _=>?_
 exact Xb (t_gx q0.1 (by simp only[List.length_cons,List.length_nil];omega)) λv3 _=>Xd trivial
theorem tJF168_7 {v6}:Tot (JF168_7 v6) (λ_=>True):=by
 refine Xc (λc237=>?_) λc237=>?_
 ·exact tL
 ·exact tL
theorem tJF168_2 {v0:G80} {v1:Bool} (q0:v1=false->0<=v0.fW/\v0.fW<=6):Tot (Vj v0 v1) (λ_=>True):=by
 refine Xc (λc=>Xd trivial) λc=>?_
 refine Xb (tF169 (q0 c)) λv4 _=>?_
 exact Xc (λ_=>tJF168_7) λ_=>tJF168_7
theorem tF168 {v0}:Tot (F168 v0) (λ_=>True):=by
 refine t_bd (λc=>tJF168_2 (by intro h;cases h)) λc=>?_
 refine t_bd (λc1=>tJF168_2 (by intro h;cases h)) λc1=>?_
 have q:0<=v0.fW/\v0.fW<=6:=by omega
 refine Xc (λc=>tJF168_2 (λ_=>q)) λc=>?_
 refine Xc (λc=>tJF168_2 (λ_=>q)) λc=>?_
 refine Xc (λc=>tJF168_2 (λ_=>q)) λc=>?_
 exact tJF168_2 (λ_=>q)
theorem F155_zero {p:G80} (h:F168 p=some 0):0<=p.fW/\p.fW<=6:=by
 rcases cor h with⟨c,h⟩|⟨c,h⟩
 ·simp[Vj]at h
 ·rcases cor h with⟨c1,h⟩|⟨c1,h⟩
  ·simp[Vj]at h
  ·simp only[decide_eq_false_iff_not]at c c1
   omega
theorem tF77 {v0}:Tot (F77 v0) (λ_=>True):=by
 unfold F77
 obtain⟨z,ez,_⟩:=tF168 (v0:=v0)
 rw[ez]
 simp only[Option.bind_some]
 refine Xc (λc=>Xd trivial) λc=>?_
 have hz:z=0:=by simpa using c
 subst hz
 exact Xb (tF169 (F155_zero ez)) λv4 _=>Xd trivial
theorem tJF260_4 {v1 v3}:Tot (JF260_4 v1 v3) (λ_=>True):=by
 refine Xc (λc238=>?_) λc238=>?_
 ·exact tL
 ·exact tL
theorem tF260 {v0}:Tot (F260 v0) (λ_=>True):=by
 refine Xb (tF77) λv1 hv1=>?_
 refine t_bn (λc239=>?_) λc239=>?_
 ·exact tJF260_4
 ·refine t_bd (λc240=>?_) λc240=>?_
  ·exact tJF260_4
  ·exact tJF260_4
theorem tF285 {v0}:Tot (F285 v0) (λ_=>True):=by
 refine Xb (tF260) λv1 hv1=>?_
 refine Xb (tF215) λv3 hv3=>?_
 refine Xb (tF214 OkSl.lit) λv5 hv5=>?_
 exact tL
theorem tJF220_3:Tot (JF220_3 ) (λ_=>True):=by
 exact tL
theorem tLF220_11 {v0:Sl G182} {v4} {v5:Int} (kv0:(OkSl (λ_=>True) 1000) v0) (b0:0<=v5) (b1:v5<=1000):Tot (LF220_11 v0 v4 v5) (λr=>match r with|.inl r=>True/\(r.2=v5+1/\v5<1000)|.inr (.inl r)=>True|.inr (.inr r)=>True):=by
 refine t_bd (λc241=>?_) λc241=>?_
 ·have lc241:=(kv0).le
  refine t_bi (Xg kv0 tI tI) λv13 hv13 ov13=>?_
  refine Xb (tF285) λv15 hv15=>?_
  refine t_bn (λc242=>?_) λc242=>?_
  ·exact tL
  ·refine Xb (tF260) λv18 hv18=>?_
   refine t_bd (λc243=>?_) λc243=>?_
   ·exact tL
   ·exact tL
 ·have lb244:=(kv0).le
  exact tL
theorem tF220 {v0:Sl G182} (kv0:(OkSl (λ_=>True) 1000) v0):Tot (F220 v0) (λ_=>True):=by
 refine t_be (λc245=>?_) λc245=>?_
 ·have lb246:=(kv0).le
  exact tL
 ·have lb247:=(kv0).le
  refine t_bd (λc248=>?_) λc248=>?_
  ·exact tL
  ·refine Xb (Xe (λ(v4,v5)=>v5) 1000 (by decide) (λ(v4,v5)=>True) (T:=tru) tB tB tZ ?_) ?_
   ·rintro⟨v4,v5⟩ hI h0 h1
    refine(tLF220_11 kv0 h0 h1).mono ?_
    exact tM
   ·rintro(v6|⟨⟩) ho7
    ·try dsimp only at ho7 ⊢
     exact tL
    ·try dsimp only at ho7 ⊢
     exact tJF220_3
theorem tJF193_2:Tot (JF193_2 ) (λ_=>True):=by
 exact tL
theorem tJF193_17 {v3:Int} {v16} (b0:0<=v3) (b1:v3<1000):Tot (JF193_17 v3 v16) (λr=>match r with|.inl r=>(r=v3+1/\v3<1000)|.inr (.inl r)=>True|.inr (.inr r)=>True):=by
 refine Xc (λc250=>?_) λc250=>?_
 ·exact tL
 ·exact tL
theorem tLF193_9 {v0:Sl G245} {v3:Int} (kv0:(OkSl (λ_=>True) 1000) v0) (b0:0<=v3) (b1:v3<=1000):Tot (LF193_9 v0 v3) (λr=>match r with|.inl r=>(r=v3+1/\v3<1000)|.inr (.inl r)=>True|.inr (.inr r)=>True):=by
 refine t_bd (λc251=>?_) λc251=>?_
 ·have lc251:=(kv0).le
  refine t_bi (Xg kv0 tI tI) λv11 hv11 ov11=>?_
  refine Xb (tF260) λv13 hv13=>?_
  refine t_bn (λc252=>?_) λc252=>?_
  ·exact tL
  ·refine t_bd (λc253=>?_) λc253=>?_
   ·exact(tJF193_17 tI tI).mono tM
   ·exact(tJF193_17 tI tI).mono tM
 ·have lb254:=(kv0).le
  exact tL
theorem tF193 {v0:Sl G245} (kv0:(OkSl (λ_=>True) 1000) v0):Tot (F193 v0) (λ_=>True):=by
 refine t_bd (λc255=>?_) λc255=>?_
 ·have lb256:=(kv0).le
  exact tL
 ·have lb257:=(kv0).le
  refine Xb (Xe (λv3=>v3) 1000 (by decide) (λv3=>True) (T:=tru) tB tB tZ ?_) ?_
  ·rintro v3 hI h0 h1
   refine(tLF193_9 kv0 h0 h1).mono ?_
   exact tM
  ·rintro(v4|⟨⟩) ho5
   ·try dsimp only at ho5 ⊢
    exact tL
   ·try dsimp only at ho5 ⊢
    exact tJF193_2
theorem tJF286_7 {v6}:Tot (JF286_7 v6) (λ_=>True):=by
 refine Xc (λc259=>?_) λc259=>?_
 ·exact tL
 ·exact tL
theorem tJF286_5 {v0} (kv0:okG171 v0):Tot (JF286_5 v0) (λ_=>True):=by
 refine t_be (λc260=>?_) λc260=>?_
 ·exact tJF286_7
 ·exact tJF286_7
theorem tJF286_18 {v10:Int} {v17} (b0:0<=v10) (b1:v10<1000):Tot (JF286_18 v10 v17) (λr=>match r with|.inl r=>(r=v10+1/\v10<1000)|.inr (.inl r)=>True|.inr (.inr r)=>True):=by
 refine Xc (λc261=>?_) λc261=>?_
 ·exact tL
 ·exact tL
theorem tLF286_15 {v0} {v10:Int} (kv0:okG171 v0) (b0:0<=v10) (b1:v10<=1000):Tot (LF286_15 v0 v10) (λr=>match r with|.inl r=>(r=v10+1/\v10<1000)|.inr (.inl r)=>True|.inr (.inr r)=>True):=by
 refine t_bd (λc262=>?_) λc262=>?_
 ·have lc262:=(kv0.fH).le
  refine Xb (t_gch tI tI) λv20 hv20=>?_
  refine t_bd (λc263=>?_) λc263=>?_
  ·exact(tJF286_18 tI tI).mono tM
  ·refine Xb (t_gch tI tI) λv23 hv23=>?_
   exact(tJF286_18 tI tI).mono tM
 ·exact tL
theorem tJF286_2 {v0 v1} (kv0:okG171 v0):Tot (JF286_2 v0 v1) (λ_=>True):=by
 refine Xc (λc264=>?_) λc264=>?_
 ·exact tL
 ·refine t_bd (λc265=>?_) λc265=>?_
  ·exact tL
  ·refine Xb (Xe (λv10=>v10) 1000 (by decide) (λv10=>True) (T:=tru) tB tB tZ ?_) ?_
   ·rintro v10 hI h0 h1
    refine(tLF286_15 kv0 h0 h1).mono ?_
    exact tM
   ·rintro(⟨⟩|⟨⟩) ho11
    ·try dsimp only at ho11 ⊢
     exact tL
    ·try dsimp only at ho11 ⊢
     exact tJF286_5 kv0
theorem tF286 {v0} (kv0:okG171 v0):Tot (F286 v0) (λ_=>True):=by
 refine t_bd (λc267=>?_) λc267=>?_
 ·exact tJF286_2 kv0
 ·exact tJF286_2 kv0
theorem tF287 {v0} (kv0:okG171 v0):Tot (F287 v0) (λ_=>True):=by
 exact tL
theorem tJF221_4 {v3}:Tot (JF221_4 v3) (λ_=>True):=by
 refine Xc (λc268=>?_) λc268=>?_
 ·exact tL
 ·exact tL
theorem tJF221_2 {v0:Sl G171} (kv0:(OkSl okG171 1000) v0):Tot (JF221_2 v0) (λ_=>True):=by
 refine t_bd (λc269=>?_) λc269=>?_
 ·have lb270:=(kv0).le
  refine t_bi (Xg kv0 tI tI) λv7 hv7 ov7=>?_
  refine Xb (tF287 hv7) λv9 hv9=>?_
  exact tJF221_4
 ·have lb271:=(kv0).le
  exact tJF221_4
theorem tLF221_17 {v0:Sl G171} {v11:Int} (kv0:(OkSl okG171 1000) v0) (b0:0<=v11) (b1:v11<=1000):Tot (LF221_17 v0 v11) (λr=>match r with|.inl r=>(r=v11+1/\v11<1000)|.inr (.inl r)=>True|.inr (.inr r)=>True):=by
 refine t_bd (λc272=>?_) λc272=>?_
 ·have lc272:=(kv0).le
  refine t_bi (Xg kv0 tI tI) λv19 hv19 ov19=>?_
  refine Xb (tF286 hv19) λv21 hv21=>?_
  refine t_bn (λc273=>?_) λc273=>?_
  ·exact tL
  ·exact tL
 ·have lb274:=(kv0).le
  exact tL
theorem tF221 {v0:Sl G171} (kv0:(OkSl okG171 1000) v0):Tot (F221 v0) (λ_=>True):=by
 refine t_bd (λc275=>?_) λc275=>?_
 ·have lb276:=(kv0).le
  exact tL
 ·have lb277:=(kv0).le
  refine Xb (Xe (λv11=>v11) 1000 (by decide) (λv11=>True) (T:=tru) tB tB tZ ?_) ?_
  ·rintro v11 hI h0 h1
   refine(tLF221_17 kv0 h0 h1).mono ?_
   exact tM
  ·rintro(v12|⟨⟩) ho13
   ·try dsimp only at ho13 ⊢
    exact tL
   ·try dsimp only at ho13 ⊢
    exact tJF221_2 kv0
theorem tJF142_19 {v0} (kv0:okG147 v0):Tot (JF142_19 v0) (λ_=>True):=by
 refine Xb (tF215) λv20 hv20=>?_
 refine Xb (tF215) λv22 hv22=>?_
 refine Xb (tF215) λv24 hv24=>?_
 refine Xb (tF215) λv26 hv26=>?_
 refine Xb (tF215) λv28 hv28=>?_
 refine Xb (tF214 OkSl.lit) λv30 hv30=>?_
 exact tL
theorem tJF142_17 {v0 v16} (kv0:okG147 v0):Tot (JF142_17 v0 v16) (λ_=>True):=by
 refine Xc (λc279=>?_) λc279=>?_
 ·exact tL
 ·refine t_be (λc280=>?_) λc280=>?_
  ·refine Xb (tF220 (kv0.fv).mono) λv33 hv33=>?_
   refine Xb (tF193 (kv0.fS).mono) λv35 hv35=>?_
   refine Xb (tF221 (kv0.fq).mono) λv37 hv37=>?_
   refine Xb (tF214 OkSl.lit) λv39 hv39=>?_
   refine t_bn (λc281=>?_) λc281=>?_
   ·exact tL
   ·exact tJF142_19 kv0
  ·exact tJF142_19 kv0
theorem tF142 {v0} (kv0:okG147 v0):Tot (F142 v0) (λ_=>True):=by
 refine Xb (tF215) λv1 hv1=>?_
 refine Xb (tF215) λv3 hv3=>?_
 refine Xb (tF214 OkSl.lit) λv5 hv5=>?_
 refine t_bn (λc282=>?_) λc282=>?_
 ·exact tL
 ·refine Xb (tF216) λv8 hv8=>?_
  refine Xc (λc283=>?_) λc283=>?_
  ·exact tL
  ·refine Xb (tF218 kv0) λv11 hv11=>?_
   refine Xb (tF217 kv0 hv11) λv13 hv13=>?_
   refine Xc (λc284=>?_) λc284=>?_
   ·exact tL
   ·refine t_bn (λc285=>?_) λc285=>?_
    ·refine Xb (tF219) λv43 hv43=>?_
     exact tJF142_17 kv0
    ·exact tJF142_17 kv0
theorem tF207 {v0} (kv0:okG147 v0):Tot (F207 v0) (λ_=>True):=by
 refine Xb (tF142 kv0) λv1 hv1=>?_
 exact tL
theorem tJF280_1_1:Tot (JF280_1_1 ) (λ_=>True):=by
 exact tL
theorem tLF280_1_8 {v0:Sl G147} {v2:Int} (kv0:(OkSl okG147 1000) v0) (b0:0<=v2) (b1:v2<=1000):Tot (LF280_1_8 v0 v2) (λr=>match r with|.inl r=>(r=v2+1/\v2<1000)|.inr (.inl r)=>True|.inr (.inr r)=>True):=by
 refine t_bd (λc286=>?_) λc286=>?_
 ·have lc286:=(kv0).le
  refine t_bi (Xg kv0 tI tI) λv10 hv10 ov10=>?_
  refine Xb (tF207 hv10) λv12 hv12=>?_
  refine Xc (λc287=>?_) λc287=>?_
  ·exact tL
  ·exact tL
 ·have lb288:=(kv0).le
  exact tL
theorem tF280_1 {v0:Sl G147} (kv0:(OkSl okG147 1000) v0):Tot (F280_1 v0) (λ_=>True):=by
 refine Xb (Xe (λv2=>v2) 1000 (by decide) (λv2=>True) (T:=tru) tB tB tZ ?_) ?_
 ·rintro v2 hI h0 h1
  refine(tLF280_1_8 kv0 h0 h1).mono ?_
  exact tM
 ·rintro(v3|⟨⟩) ho4
  ·try dsimp only at ho4 ⊢
   exact tL
  ·try dsimp only at ho4 ⊢
   exact tJF280_1_1
theorem tF212_1 {v0:Sl G147} (kv0:(OkSl okG147 1000) v0):Tot (F212_1 v0) (λ_=>True):=by
 refine Xb (tF280_1 kv0) λv2 hv2=>?_
 exact tL
theorem tF306 {v0} (kv0:okG100 v0):Tot (F306 v0) (λ_=>True):=by
 refine t_bd (λc290=>?_) λc290=>?_
 ·have lb291:=(kv0.fg).le
  refine t_bi (Xg (kv0.fg) tI tI) λv2 hv2 ov2=>?_
  exact tL
 ·have lb292:=(kv0.fg).le
  exact tL
theorem tJF336_4 {v3}:Tot (JF336_4 v3) (λ_=>True):=by
 exact tL
theorem tF336 {v0:G142} (q0:-1<=v0.fx/\v0.fx<=8/\v0.fB<=3):Tot (F336 v0) (λ_=>True):=by
 unfold F336
 refine Xb (t_gshr (by rw[Xr (by omega) (by omega)];omega)) λv1 _=>?_
 refine Xb (R:=λ_=>True) (Yo (λ(_,_,v7)=>0<=v7/\v7<=100) (λ(_,_,v7)=>(100-v7).toNat) _ (λs hs=>?_) ⟨by omega,by omega⟩ (by dsimp only;omega)) λo _=>tJF336_4
 obtain⟨v5,v6,v7⟩:=s
 dsimp only at hs ⊢
 unfold LF336_13
 cases hc:decide (v7<v0.fB)with
 |true=>
  have:=of_decide_eq_true hc
  left
  have e:=Xr (n:=v7+1) (by omega) (by omega)
  exact⟨_,rfl,⟨by show 0<=wi (v7+1);omega,by show wi (v7+1)<=100;omega⟩,by show(100-wi (v7+1)).toNat<(100-v7).toNat;omega⟩
 |false=>right;exact⟨_,rfl,trivial⟩
theorem F42_zero {v:G142} (h:F219 v=some 0):-1<=v.fx/\v.fx<=8/\v.fB<=3:=by
 rcases cor h with⟨c,h⟩|⟨c,h⟩
 ·simp[Vi]at h
 ·rcases cor h with⟨c1,h⟩|⟨c1,h⟩
  ·simp[Vi]at h
  ·rcases cor h with⟨c2,h⟩|⟨c2,h⟩
   ·simp[Vi]at h
   ·unfold Vi at h
    rcases cor h with⟨c3,h⟩|⟨c3,h⟩
    ·simp at h
    ·simp only[decide_eq_false_iff_not]at c c1 c2 c3
     omega
theorem tF330 {v0}:Tot (F330 v0) (λ_=>True):=by
 unfold F330
 obtain⟨z,ez,_⟩:=tF219 (v0:=v0)
 rw[ez]
 simp only[Option.bind_some]
 refine Xc (λc=>Xd trivial) λc=>?_
 have hz:z=0:=by simpa using c
 subst hz
 exact Xb (tF336 (F42_zero ez)) λv4 _=>Xd trivial
theorem tJF325_4 {v1 v0 v3} (kv0:okG147 v0):Tot (JF325_4 v1 v0 v3) (λ_=>True):=by
 refine Xc (λc293=>?_) λc293=>?_
 ·exact tL
 ·refine Xb (tF330) λv6 hv6=>?_
  exact tL
theorem tF325 {v0} (kv0:okG147 v0):Tot (F325 v0) (λ_=>True):=by
 refine Xb (tF142 kv0) λv1 hv1=>?_
 refine t_bn (λc294=>?_) λc294=>?_
 ·exact tJF325_4 kv0
 ·exact tJF325_4 kv0
theorem tF318 {v0:Sl G147} (kv0:(OkSl okG147 1000) v0):Tot (F318 v0) (λr=>ln r<=1000):=by
 refine t_be (λc=>?_) (λc=>?_)
 ·refine Xb (R:=λ_=>True) (Yo (λs=>s=0) (λ_=>0) (λ_=>True) (λs hs=>?_) rfl (by decide)) λo6 _=>?_
  ·subst hs
   right
   refine⟨(),?_,trivial⟩
   unfold LF318_10
   have e:decide ((0:Int)<ln v0)=false:=decide_eq_false (by omega)
   rw[e]
   rfl
  ·show Tot JF318_4 _
   unfold JF318_4
   exact Xd (show(0:Int)<=1000 by decide)
 ·have lb:=kv0.le
  refine Xb (t_gmk (by omega) (by omega) (by decide)) λv2 hv2=>?_
  refine Xb (Xe (λ(v18,_)=>v18) 1000 (by decide) (λ(_,v19)=>v19.length=v2) (T:=λr=>r.length=v2) (by (try dsimp only);omega) (by (try dsimp only);omega) (by (try dsimp only);simp) ?_) ?_
  ·rintro⟨v18,v19⟩ hI h0 h1
   try dsimp only at hI h0 h1 ⊢
   unfold LF318_25
   refine t_bd (λc2=>?_) (λc2=>?_)
   ·refine Xb (Xg kv0 (by omega) (by omega)) λv27 hv27=>?_
    refine Xb (tF325 hv27.1) λv29 hv29=>?_
    refine Xb (t_gin (by omega) (by omega)) λv31 _=>?_
    refine Xb (t_gset (by omega) (by omega)) λv33 hv33=>?_
    exact Xd ⟨hv33.2.trans hI,Xr (by omega) (by omega),by show v18<1000;omega⟩
   ·exact Xd hI
  ·rintro v20 ho
   show Tot (JF318_17 v2 v20) _
   unfold JF318_17
   refine Xb (t_gfz ho) λ_ _=>?_
   exact Xd (show((v20.length:Nat):Int)<=1000 by omega)
theorem tF337 {v0 v1}:Tot (F337 v0 v1) (λ_=>True):=by
 refine t_bd (λc297=>?_) λc297=>?_
 ·exact tL
 ·exact tL
def okT (n:Int) (t:G425):Prop:=(1<=t.faj/\t.faj<=32)/\(1<=t.fam/\t.fam<=32)/\0<=t.fal/\1<=t.fE/\t.fal+t.fE<=n
theorem badT_ok {n:Int} (h0:0<=n/\n<=128) {t:G425} (h:badT n ⟨t.fal,t.fE,t.faj,t.fam⟩=false):okT n t:=by
 unfold badT at h
 simp only[Bool.or_eq_false_iff,decide_eq_false_iff_not,Bool.not_eq_false',ratioT,decide_eq_true_eq]at h
 obtain⟨⟨⟨⟨⟨⟨a,b⟩,c⟩,d⟩,e⟩,f⟩,_⟩:=h
 unfold RowKit.wrap64 at d
 exact⟨e,f,by omega,by omega,by omega⟩
theorem if3 {b q e:Bool} {x:Int} (h:(if b then 2 else if q then 25 else if e then x else 21)=0):b=false/\e=true/\x=0:=by
 cases b<;>cases q<;>cases e<;>simp at h ⊢
 exact h
theorem goT_ok {n:Int} (h0:0<=n/\n<=128):∀ (l:List G425) (p:Option Tp) (S:List Tp),goT n p (l.map λt=>⟨t.fal,t.fE,t.faj,t.fam⟩) S=0->∀ t∈l,okT n t
 |[],_,_,_,t,ht=>by cases ht
 |x::l,p,S,h,t,ht=>by
  rw[List.map_cons,goT.eq_def]at h
  simp only at h
  obtain⟨h1,h2,h3⟩:=if3 h
  rcases List.mem_cons.1 ht with rfl|ht
  ·exact badT_ok h0 h1
  ·exact goT_ok h0 l _ _ h3 t ht
theorem tcheck_ok {l:List G425} {n:Int} (h:tcheck (l.map λt=>⟨t.fal,t.fE,t.faj,t.fam⟩) n=0):n<=128/\∀ t∈l,okT n t:=by
 unfold tcheck at h
 split at h
 ·cases h
 ·split at h
  ·cases h
  ·exact⟨by omega,goT_ok (by omega) l _ _ h⟩
theorem tF338w (a b:Int) (ha:1<=a) (hb:0<=b) (hb1:b<=4611686018427387904):Tot (F338 a b) (λr=>1<=r/\r∣a/\r∣b):=by
 unfold F338
 refine Xb (R:=λr=>1<=r/\r∣a/\r∣b) (Yo (λ(x,y)=>1<=x/\0<=y/\y<=b/\∀ d,d∣x->d∣y->d∣a/\d∣b) (λ(_,y)=>y.toNat) _ (λs hs=>?_) ⟨ha,hb,Int.le_refl _,λd h k=>⟨h,k⟩⟩ (by dsimp only;omega)) λo ho=>Xd ho
 obtain⟨x,y⟩:=s
 obtain⟨h1,h2,h3,h4⟩:=hs
 dsimp only at h1 h2 h3 h4 ⊢
 unfold LF338_11
 cases hc:decide (y>0)with
 |true=>
  have hy:=of_decide_eq_true hc
  left
  obtain⟨r,er,hr⟩:=t_gr (a:=x) (b:=y) (by omega)
  rw[er]
  subst hr
  have e1:x.tmod y=x%y:=Int.tmod_eq_emod_of_nonneg (by omega)
  have m0:0<=x%y:=Int.emod_nonneg _ (by omega)
  have m1:x%y<y:=Int.emod_lt_of_pos _ hy
  refine⟨(y,x.tmod y),rfl,⟨by omega,by dsimp only;omega,by dsimp only;omega,λd hd hm=>h4 d ?_ hd⟩,by dsimp only;omega⟩
  dsimp only at hm
  rw[e1]at hm
  have e2:=Int.mul_ediv_add_emod x y
  rw[<-e2]
  exact Int.dvd_add (Int.dvd_trans hd (Int.dvd_mul_right _ _)) hm
 |false=>
  have hy:=of_decide_eq_false hc
  right
  have:y=0:=by omega
  subst this
  exact⟨_,rfl,h1,h4 x (Int.dvd_refl _) (Int.dvd_zero _)⟩
theorem tdiv_pos {a g:Int} (ha:1<=a) (hg:1<=g) (hd:g∣a):1<=a.tdiv g/\a.tdiv g<=a:=by
 obtain⟨k,rfl⟩:=hd
 rw[Int.mul_tdiv_cancel_left _ (by omega)]
 have hk:1<=k:=by
  rcases Int.lt_or_le k 1 with h|h
  ·have:=Int.mul_le_mul_of_nonneg_left (show k<=0 by omega) (show 0<=g by omega)
   rw[Int.mul_zero]at this
   omega
  ·exact h
 refine⟨hk,?_⟩
 have:=Int.mul_le_mul_of_nonneg_right hg (show 0<=k by omega)
 omega
theorem tLF335_14w {n v1 v5 v6 v7:Int} {v0:Sl G425} (k0:ln v0<=6) (k1:∀ t∈Sl.es v0,okT n t) (h7:0<=v7/\v7<=6) (h5:1<=v5/\v5<=32^v7.toNat) (h6:1<=v6/\v6<=32^v7.toNat):
  Tot (LF335_14 v0 v1 v5 v6 v7) (λr=>match r with
   |.inl (a,b,i)=>i=v7+1/\v7<6/\(1<=a/\a<=32^i.toNat)/\(1<=b/\b<=32^i.toNat)
   |.inr (a,b)=>1<=a/\1<=b):=by
 have hp:(32:Int)^v7.toNat<=1073741824:=by
  have:v7=0\/v7=1\/v7=2\/v7=3\/v7=4\/v7=5\/v7=6:=by omega
  rcases this with h|h|h|h|h|h|h<;>subst h<;>decide
 have hs:(32:Int)^(v7+1).toNat=32^v7.toNat*32:=by
  rw[show(v7+1).toNat=v7.toNat+1 by omega,Int.pow_succ]
 refine t_bd (λc=>?_) λc=>Xd ⟨h5.1,h6.1⟩
 refine Xb (t_gx (by omega) (by simp only[ln]at c;omega)) λv16 hv=>?_
 have ht:=k1 v16 hv.1
 refine Xb (tF337) λv18 _=>?_
 have ew:wi (v7+1)=v7+1:=Xr (by omega) (by omega)
 refine Xc (λc1=>?_) λc1=>?_
 ·obtain⟨⟨a0,a1⟩,⟨n0,n1⟩,_⟩:=ht
  have p1:1<=v5*v16.fam:=Int.mul_le_mul h5.1 n0 (by omega) (by omega)
  have p2:v5*v16.fam<=32^v7.toNat*32:=Int.mul_le_mul h5.2 n1 (by omega) (by omega)
  have p3:1<=v6*v16.faj:=Int.mul_le_mul h6.1 a0 (by omega) (by omega)
  have p4:v6*v16.faj<=32^v7.toNat*32:=Int.mul_le_mul h6.2 a1 (by omega) (by omega)
  rw[Xr (n:=v5*v16.fam) (by omega) (by omega),Xr (n:=v6*v16.faj) (by omega) (by omega)]
  refine Xb (tF338w _ _ p1 (by omega) (by omega)) λg hg=>?_
  obtain⟨g1,g2,g3⟩:=hg
  refine Xb (t_gq (by omega)) λv23 h23=>?_
  refine Xb (t_gq (by omega)) λv25 h25=>?_
  have d1:=tdiv_pos p1 g1 g2
  have d2:=tdiv_pos p3 g1 g3
  have w1:v23=(v5*v16.fam).tdiv g:=h23.trans (Xr (by omega) (by omega))
  have w2:v25=(v6*v16.faj).tdiv g:=h25.trans (Xr (by omega) (by omega))
  refine Xd ?_
  dsimp only
  rw[ew,hs]
  exact⟨rfl,by omega,by omega,by omega⟩
 ·refine Xd ?_
  dsimp only
  rw[ew,hs]
  exact⟨rfl,by omega,by omega,by omega⟩
theorem tF335w {n v1:Int} {v0:Sl G425} (k0:ln v0<=6) (k1:∀ t∈Sl.es v0,okT n t):Tot (F335 v0 v1) (λr=>1<=r.1/\1<=r.2):=by
 refine Xb (R:=λr=>1<=r.1/\1<=r.2) (Xe (λ(_,_,v7)=>v7) 6 (by decide) (λ(a,b,v7)=>(1<=a/\a<=32^v7.toNat)/\(1<=b/\b<=32^v7.toNat)) (by dsimp only;omega) (by dsimp only;omega) (by decide) ?_) λo ho=>Xd ho
 rintro⟨a,b,i⟩ hI h0 h1
 dsimp only at hI h0 h1 ⊢
 refine(tLF335_14w k0 k1 ⟨h0,h1⟩ hI.1 hI.2).mono ?_
 rintro(⟨x,y,j⟩|⟨x,y⟩) h
 ·exact⟨⟨h.2.2.1,h.2.2.2⟩,h.1,h.2.1⟩
 ·exact h
theorem tF327w {n v1 v2:Int} {v0:Sl G425} (k0:ln v0<=6) (k1:∀ t∈Sl.es v0,okT n t):Tot (F327 v0 v1 v2) (λ_=>True):=by
 have key:∀ b,Tot (JF327_4 v0 v1 v2 b) (λ_=>True):=by
  intro b
  unfold JF327_4
  refine Xc (λc=>Xd trivial) λc=>?_
  refine Xb (tF335w k0 k1) λv6 h6=>?_
  refine Xb (t_gr (by omega)) λv8 _=>?_
  refine Xc (λc=>Xd trivial) λc=>?_
  exact Xb (t_gq (by omega)) λv11 _=>Xd trivial
 exact Xc (λ_=>key _) λ_=>key _
theorem F137_zero {v0:Sl G425} {v1:Sl Int} {r:Sl Int×Int} (h:F319 v0 v1=some r) (hr:r.2=0):ln v1<=128/\∀ t∈Sl.es v0,okT (ln v1) t:=by
 unfold F319 F326 at h
 simp only[Option.bind_some]at h
 rcases cor h with⟨c,h⟩|⟨c,h⟩
 ·cases h
  simp only at hr
  rw[hr]at c
  cases c
 ·exact tcheck_ok (by simpa using c)
theorem tF319 {v0:Sl G425} {v1:Sl Int} (kv0:(OkSl (λ_=>True) 6) v0) (kv1:(OkSl (λ_=>True) 1000) v1):Tot (F319 v0 v1) (λr=>ln r.1<=1000/\True):=by
 unfold F319
 unfold F326
 simp only[Option.bind_some]
 generalize hz:tcheck _ _=z
 refine t_bn (λc=>Xd ⟨by simp only[ln_nil];omega,trivial⟩) λc=>?_
 subst c
 obtain⟨n1,ht⟩:=tcheck_ok hz
 have l0:=kv0.le
 have l1:=kv1.le
 refine Xb (t_gmc l1.1 (by omega) (by decide)) λ_ _=>?_
 refine Xb (Xe (λ(_,v10)=>v10) 1000 (by decide) (λ(v9,v10)=>(v9.length:Int)<=v10) (T:=λr=>match r with|.inl _=>True|.inr r=>r.length<=1000) (by decide) (by decide) (by decide) ?_) ?_
 ·rintro⟨v9,v10⟩ hI h0 h1
  dsimp only at hI h0 h1 ⊢
  unfold LF319_17
  refine t_bd (λc=>?_) λc=>Xd (show v9.length<=1000 by omega)
  refine Xb (Xg kv1 h0 c) λv19 h19=>?_
  refine Xb (tF327w l0.2 ht) λv21 _=>?_
  refine Xc (λc=>Xd trivial) λc=>?_
  refine Xb (t_gappK 1 (h:=by omega)) λv24 h24=>?_
  have e:=Xr (n:=v10+1) (by omega) (by omega)
  exact Xd ⟨by show(v24.length:Int)<=wi (v10+1);omega,e,by show v10<1000;omega⟩
 ·rintro(v11|v12) h
  ·exact Xd ⟨by simp only[ln_nil];omega,trivial⟩
  ·exact Xd ⟨by show((v12.length:Nat):Int)<=_;dsimp only at h;omega,trivial⟩
theorem tJF328_7:Tot (JF328_7 ) (λ_=>True):=by
 exact tL
theorem tLF328_26w {v3:G425} {v0:Sl G425} {v1:Int} {v2:Sl Int} {v19 v20:Int} (k0:OkSl (λ_=>True) 6 v0) (k2:OkSl (λ_=>True) 1000 v2) (q0:0<=v1/\v1<ln v0) (q1:ln v2<=128/\∀ t∈Sl.es v0,okT (ln v2) t) (h3:okT (ln v2) v3) (b0:0<=v20) (b1:v20<=128):
  Tot (LF328_26 v3 v0 v1 v2 v19 v20) (λr=>match r with|.inl r=>r.2=v20+1/\v20<128|.inr _=>True):=by
 unfold LF328_26 F332
 simp only[Option.bind_some]
 have l0:=k0.le
 obtain⟨_,_,t0,t1,t2⟩:=h3
 rw[Xr (n:=v3.fal+v3.fE) (by omega) (by omega)]
 refine t_bd (λc=>?_) λc=>Xd trivial
 refine Xb (t_gslR (by rw[Xr (by omega) (by omega)];omega) (by rw[Xr (by omega) (by omega)];omega) (by simp only[ln];omega)) λv30 h30=>?_
 have hk:ln v30<=6:=by
  simp only[ln]at l0 ⊢
  rw[h30]
  simp only[List.length_drop,List.length_take]
  omega
 refine Xb (Xg k2 b0 (by omega)) λv32 _=>?_
 refine Xb (tF327w (n:=ln v2) hk λt ht=>q1.2 t ?_) λv34 _=>?_
 ·rw[h30]at ht
  exact List.mem_of_mem_take (List.mem_of_mem_drop ht)
 ·exact Xc (λc=>Xd trivial) λ_=>Xd ⟨Xr (by omega) (by omega),by show v20<128;omega⟩
theorem tF328 {v0:Sl G425} {v1:Int} {v2:Sl Int} (kv0:(OkSl (λ_=>True) 6) v0) (kv2:(OkSl (λ_=>True) 1000) v2) (q0:0<=v1/\v1<ln v0) (q1:ln v2<=128/\∀ t∈Sl.es v0,okT (ln v2) t):Tot (F328 v0 v1 v2) (λ_=>True):=by
 refine Xb (t_gx q0.1 q0.2) λv3 h3=>?_
 have h:=q1.2 v3 h3.1
 obtain⟨_,_,t0,t1,t2⟩:=h
 refine Xb (Xe (λ(_,v20)=>v20) 128 (by decide) (λ_=>True) (T:=λ_=>True) t0 (by dsimp only;omega) trivial ?_) ?_
 ·rintro⟨v19,v20⟩ _ h0 h1
  dsimp only at h0 h1 ⊢
  refine(tLF328_26w kv0 kv2 q0 q1 (q1.2 v3 h3.1) h0 h1).mono ?_
  rintro(⟨a,b⟩|r) h
  ·exact⟨trivial,h⟩
  ·trivial
 ·rintro(_|v21) _
  ·exact Xd trivial
  ·show Tot (JF328_6 v3 v21) _
   unfold JF328_6
   refine Xb (Xe (λ(v8:Int)=>v8+1) 10 (by decide) (λ_=>True) (T:=λ_=>True) (by decide) (by decide) trivial ?_) ?_
   ·intro v8 _ h0 h1
    unfold LF328_14
    have e:wi (v8+1)=v8+1:=Xr (by omega) (by omega)
    refine t_bd (λc=>?_) λc=>Xd trivial
    refine Xb (t_gshr (by omega)) λv16 _=>?_
    exact Xc (λ_=>Xd trivial) λ_=>Xd ⟨trivial,by show wi (v8+1)+1=v8+1+1;omega,by show v8+1<10;omega⟩
   ·rintro(v9|_) _
    ·exact Xd trivial
    ·exact tJF328_7
theorem tF320 {v0:Sl G425} {v1:Sl Int} (kv0:(OkSl (λ_=>True) 6) v0) (kv1:(OkSl (λ_=>True) 1000) v1):Tot (F320 v0 v1) (λr=>ln r.1<=1000/\True):=by
 unfold F320
 obtain⟨r,er,hr⟩:=tF319 kv0 kv1
 rw[er]
 simp only[Option.bind_some]
 refine t_bn (λc=>Xd ⟨by simp only[ln_nil];omega,trivial⟩) λc=>?_
 have q:=F137_zero er c
 have l0:=kv0.le
 refine Xb (t_gmc l0.1 (by omega) (by decide)) λ_ _=>?_
 refine Xb (Xe (λ(_,v10)=>v10) 1000 (by decide) (λ(v9,v10)=>(v9.length:Int)<=v10) (T:=λr=>match r with|.inl _=>True|.inr r=>r.length<=1000) (by decide) (by decide) (by decide) ?_) ?_
 ·rintro⟨v9,v10⟩ hI h0 h1
  dsimp only at hI h0 h1 ⊢
  unfold LF320_16
  refine t_bd (λc=>?_) λc=>Xd (show v9.length<=1000 by omega)
  refine Xb (tF328 kv0 kv1 ⟨h0,c⟩ q) λv18 _=>?_
  refine Xc (λc=>Xd trivial) λc=>?_
  refine Xb (t_gappK 1 (h:=by omega)) λv24 h24=>?_
  have e:=Xr (n:=v10+1) (by omega) (by omega)
  exact Xd ⟨by show(v24.length:Int)<=wi (v10+1);omega,e,by show v10<1000;omega⟩
 ·rintro(v11|v12) h
  ·exact Xd ⟨by simp only[ln_nil];omega,trivial⟩
  ·exact Xd ⟨by show((v12.length:Nat):Int)<=_;dsimp only at h;omega,trivial⟩
theorem tJF307_1 {v0} (kv0:okG100 v0):Tot (JF307_1 v0) (λr=>ln r.1<=1000/\True):=by
 refine Xb (tF318 (kv0.fg).mono) λv2 hv2=>?_
 refine Xb (tF319 (kv0.fX).mono (OkSl.tr (s:=v2) (n:=1000) tI)) λv4 hv4=>?_
 obtain⟨hv4_0,hv4_1⟩:=hv4
 refine t_bn (λc298=>?_) λc298=>?_
 ·exact tL
 ·refine Xb (tF320 (kv0.fX).mono (OkSl.tr (s:=v2) (n:=1000) tI)) λv7 hv7=>?_
  obtain⟨hv7_0,hv7_1⟩:=hv7
  refine t_bn (λc299=>?_) λc299=>?_
  ·exact tL
  ·have lb300:=(OkSl.tr (s:=v4.1) (n:=1000) tI).le
   exact tL
theorem tJF307_24 {v10:Int} {v23} (b0:0<=v10) (b1:v10<1000):Tot (JF307_24 v10 v23) (λr=>match r with|.inl r=>(r=v10+1/\v10<1000)|.inr (.inl r)=>True|.inr (.inr r)=>True):=by
 refine Xc (λc301=>?_) λc301=>?_
 ·exact tL
 ·exact tL
theorem tLF307_16 {v0} {v10:Int} (kv0:okG100 v0) (b0:0<=v10) (b1:v10<=1000):Tot (LF307_16 v0 v10) (λr=>match r with|.inl r=>(r=v10+1/\v10<1000)|.inr (.inl r)=>True|.inr (.inr r)=>True):=by
 refine t_bd (λc302=>?_) λc302=>?_
 ·have lc302:=(kv0.fg).le
  refine t_bi (Xg (kv0.fg) tI tI) λv18 hv18 ov18=>?_
  refine Xb (tF142 hv18) λv20 hv20=>?_
  refine t_bn (λc303=>?_) λc303=>?_
  ·exact tL
  ·refine t_be (λc304=>?_) λc304=>?_
   ·refine t_bd (λc305=>?_) λc305=>?_
    ·exact(tJF307_24 tI tI).mono tM
    ·exact(tJF307_24 tI tI).mono tM
   ·exact(tJF307_24 tI tI).mono tM
 ·have lb306:=(kv0.fg).le
  exact tL
theorem tF307 {v0} (kv0:okG100 v0):Tot (F307 v0) (λr=>ln r.1<=1000/\True):=by
 refine Xb (Xe (λv10=>v10) 1000 (by decide) (λv10=>True) (T:=tru) tB tB tZ ?_) ?_
 ·rintro v10 hI h0 h1
  refine(tLF307_16 kv0 h0 h1).mono ?_
  exact tM
 ·rintro(v11|⟨⟩) ho12
  ·try dsimp only at ho12 ⊢
   exact tL
  ·try dsimp only at ho12 ⊢
   exact(tJF307_1 kv0).mono tM
theorem tJF257_7 {v0:G100} {v1} {v6:Bool} (kv0:okG100 v0) (q0:v6=true->(0<ln v0.fg)):Tot (JF257_7 v0 v1 v6) (λr=>ln r.1<=1000/\True):=by
 refine Xc (λc308=>?_) λc308=>?_
 ·have lb309:=(kv0.fg).le
  have qq310:=q0 c308
  refine t_bi (Xg (kv0.fg) tI tI) λv9 hv9 ov9=>?_
  refine Xb (tF142 hv9) λv11 hv11=>?_
  refine t_bn (λc311=>?_) λc311=>?_
  ·exact tL
  ·refine t_bd (λc312=>?_) λc312=>?_
   ·have lb313:=(kv0.fX).le
    exact tL
   ·have lb314:=(kv0.fX).le
    exact tL
 ·refine Xb (tF307 kv0) λv15 hv15=>?_
  obtain⟨hv15_0,hv15_1⟩:=hv15
  have lb315:=(OkSl.tr (s:=v15.1) (n:=1000) tI).le
  exact tL
theorem tJF257_3 {v0 v1 v2} (kv0:okG100 v0):Tot (JF257_3 v0 v1 v2) (λr=>ln r.1<=1000/\True):=by
 refine Xc (λc316=>?_) λc316=>?_
 ·exact tL
 ·refine t_bd (λc317=>?_) λc317=>?_
  ·have lb318:=(kv0.fg).le
   exact tL
  ·have lb319:=(kv0.fg).le
   refine Xb (tF306 kv0) λv17 hv17=>?_
   refine Xc (λc320=>?_) λc320=>?_
   ·exact(tJF257_7 kv0 (by intro g321;replace g321:=eq_of_beq g321;exact tI)).mono tM
   ·exact(tJF257_7 kv0 (by intros;simp_all only [Bool.false_eq_true,Bool.true_eq_false,reduceCtorEq])).mono tM
theorem tF257 {v0 v1} (kv0:okG100 v0):Tot (F257 v0 v1) (λr=>ln r.1<=1000/\True):=by
 refine t_bd (λc322=>?_) λc322=>?_
 ·exact(tJF257_3 kv0).mono tM
 ·exact(tJF257_3 kv0).mono tM
theorem tJF258_2 {v1}:Tot (JF258_2 v1) (λ_=>True):=by
 exact tL
theorem tLF258_10 {v0:Sl Int} {v3} {v4:Int} (kv0:(OkSl (λ_=>True) 1000) v0) (b0:0<=v4) (b1:v4<=1000):Tot (LF258_10 v0 v3 v4) (λr=>match r with|.inl r=>True/\(r.2=v4+1/\v4<1000)|.inr r=>True):=by
 refine t_bd (λc323=>?_) λc323=>?_
 ·have lc323:=(kv0).le
  refine t_bi (Xg kv0 tI tI) λv12 hv12 ov12=>?_
  exact tL
 ·have lb324:=(kv0).le
  exact tL
theorem tF258 {v0:Sl Int} (kv0:(OkSl (λ_=>True) 1000) v0):Tot (F258 v0) (λ_=>True):=by
 refine Xb (Xe (λ(v3,v4)=>v4) 1000 (by decide) (λ(v3,v4)=>True) (T:=tru) tB tB tZ ?_) ?_
 ·rintro⟨v3,v4⟩ hI h0 h1
  refine(tLF258_10 kv0 h0 h1).mono ?_
  exact tM
 ·rintro v5 ho6
  exact tJF258_2
theorem tJF188_5 {v2:(Sl Int)×Int} {v4} (kv2:(λp:(Sl Int)×Int=>(OkSl (λ_=>True) 1000) p.1/\True) v2):Tot (JF188_5 v2 v4) (λr=>ln r.1<=1000/\True):=by
 refine t_bn (λc326=>?_) λc326=>?_
 ·exact tL
 ·have lb327:=(kv2.1).le
  exact tL
theorem tJF188_8 {v2:(Sl Int)×Int} {v7} (kv2:(λp:(Sl Int)×Int=>(OkSl (λ_=>True) 1000) p.1/\True) v2):Tot (JF188_8 v2 v7) (λr=>ln r.1<=1000/\True):=by
 refine Xc (λc328=>?_) λc328=>?_
 ·exact(tJF188_5 ⟨kv2.1,trivial⟩).mono tM
 ·exact(tJF188_5 ⟨kv2.1,trivial⟩).mono tM
theorem tF188 {v0 v1} (kv0:okG100 v0):Tot (F188 v0 v1) (λr=>ln r.1<=1000/\True):=by
 refine Xb (tF257 kv0) λv2 hv2=>?_
 obtain⟨hv2_0,hv2_1⟩:=hv2
 refine t_be (λc329=>?_) λc329=>?_
 ·refine t_bd (λc330=>?_) λc330=>?_
  ·have lb331:=(OkSl.tr (s:=v2.1) (n:=1000) tI).le
   refine Xb (tF258 (OkSl.tr (s:=v2.1) (n:=1000) tI)) λv12 hv12=>?_
   exact(tJF188_8 ⟨OkSl.tr (s:=v2.1) (n:=1000) tI,trivial⟩).mono tM
  ·have lb332:=(OkSl.tr (s:=v2.1) (n:=1000) tI).le
   exact(tJF188_8 ⟨OkSl.tr (s:=v2.1) (n:=1000) tI,trivial⟩).mono tM
 ·exact(tJF188_8 ⟨OkSl.tr (s:=v2.1) (n:=1000) tI,trivial⟩).mono tM
theorem tF213 {v0 v1} (kv0:okG100 v0):Tot (F213 v0 v1) (λ_=>True):=by
 refine Xb (tF188 kv0) λv2 hv2=>?_
 obtain⟨hv2_0,hv2_1⟩:=hv2
 exact tL
theorem tF138 {v0}:Tot (F138 v0) (λ_=>True):=by
 refine t_be (λc333=>?_) λc333=>?_
 ·exact tL
 ·exact tL
theorem tF211_1 {v0 v1} (kv0:okG100 v0):Tot (F211_1 v0 v1) (λ_=>True):=by
 refine Xb (tF212_1 (kv0.fg).mono) λv3 hv3=>?_
 refine Xc (λc334=>?_) λc334=>?_
 ·refine Xb (tF213 kv0) λv6 hv6=>?_
  refine Xb (tF138) λv8 hv8=>?_
  exact tL
 ·exact tL
theorem tJF279_1_2:Tot (JF279_1_2 ) (λ_=>True):=by
 exact tL
theorem tLF279_1_9 {v0:Sl G100} {v1} {v3:Int} (kv0:(OkSl okG100 1000) v0) (b0:0<=v3) (b1:v3<=1000):Tot (LF279_1_9 v0 v1 v3) (λr=>match r with|.inl r=>(r=v3+1/\v3<1000)|.inr (.inl r)=>True|.inr (.inr r)=>True):=by
 refine t_bd (λc335=>?_) λc335=>?_
 ·have lc335:=(kv0).le
  refine t_bi (Xg kv0 tI tI) λv11 hv11 ov11=>?_
  refine Xb (tF211_1 hv11) λv15 hv15=>?_
  refine Xc (λc336=>?_) λc336=>?_
  ·exact tL
  ·exact tL
 ·have lb337:=(kv0).le
  exact tL
theorem tF279_1 {v0:Sl G100} {v1} (kv0:(OkSl okG100 1000) v0):Tot (F279_1 v0 v1) (λ_=>True):=by
 refine Xb (Xe (λv3=>v3) 1000 (by decide) (λv3=>True) (T:=tru) tB tB tZ ?_) ?_
 ·rintro v3 hI h0 h1
  refine(tLF279_1_9 kv0 h0 h1).mono ?_
  exact tM
 ·rintro(v4|⟨⟩) ho5
  ·try dsimp only at ho5 ⊢
   exact tL
  ·try dsimp only at ho5 ⊢
   exact tJF279_1_2
theorem tF210_1 {v0:Sl G100} {v1} (kv0:(OkSl okG100 1000) v0):Tot (F210_1 v0 v1) (λ_=>True):=by
 refine Xb (tF279_1 kv0) λv4 hv4=>?_
 exact tL
theorem tF209_1 {v0 v1} (kv0:okG95 v0):Tot (F209_1 v0 v1) (λ_=>True):=by
 refine Xb (tF210_1 (kv0.ff).mono) λv4 hv4=>?_
 exact tL
theorem tJF278_1_2:Tot (JF278_1_2 ) (λ_=>True):=by
 exact tL
theorem tLF278_1_9 {v0:Sl G95} {v1} {v3:Int} (kv0:(OkSl okG95 1000) v0) (b0:0<=v3) (b1:v3<=1000):Tot (LF278_1_9 v0 v1 v3) (λr=>match r with|.inl r=>(r=v3+1/\v3<1000)|.inr (.inl r)=>True|.inr (.inr r)=>True):=by
 refine t_bd (λc339=>?_) λc339=>?_
 ·have lc339:=(kv0).le
  refine t_bi (Xg kv0 tI tI) λv11 hv11 ov11=>?_
  refine Xb (tF209_1 hv11) λv15 hv15=>?_
  refine Xc (λc340=>?_) λc340=>?_
  ·exact tL
  ·exact tL
 ·have lb341:=(kv0).le
  exact tL
theorem tF278_1 {v0:Sl G95} {v1} (kv0:(OkSl okG95 1000) v0):Tot (F278_1 v0 v1) (λ_=>True):=by
 refine Xb (Xe (λv3=>v3) 1000 (by decide) (λv3=>True) (T:=tru) tB tB tZ ?_) ?_
 ·rintro v3 hI h0 h1
  refine(tLF278_1_9 kv0 h0 h1).mono ?_
  exact tM
 ·rintro(v4|⟨⟩) ho5
  ·try dsimp only at ho5 ⊢
   exact tL
  ·try dsimp only at ho5 ⊢
   exact tJF278_1_2
theorem tF208_1 {v0:Sl G95} {v1} (kv0:(OkSl okG95 1000) v0):Tot (F208_1 v0 v1) (λ_=>True):=by
 refine Xb (tF278_1 kv0) λv4 hv4=>?_
 exact tL
theorem tF206_1 {v0 v1} (kv1:okG75 v1):Tot (F206_1 v0 v1) (λ_=>True):=by
 refine Xb (tF99 kv1) λv2 hv2=>?_
 refine t_bn (λc343=>?_) λc343=>?_
 ·exact tL
 ·refine Xb (tF208_1 (kv1.fe).mono) λv7 hv7=>?_
  exact tL
theorem tLF131_4_11 {v0 v1} {v4:Int} {v5:List G159} (kv0:okG27 v0) (kl:v5.length+1<=500000000000) (b0:0<=v4) (b1:v4<=10):Tot (LF131_4_11 v0 v1 v4 v5) (λr=>match r with|.inl r=>(r.1=v4+1/\v4<10)/\r.2.length<=v5.length+1|.inr r=>r.length<=v5.length+1):=by
 refine t_bd (λc344=>?_) λc344=>?_
 ·have lc344:=(kv0.fc).le
  refine t_bi (Xg (kv0.fc) tI tI) λv13 hv13 ov13=>?_
  refine Xb (tF206_1 hv13) λv17 hv17=>?_
  refine Xb (Xz kv0 tI) λv24 hv24=>?_
  exact tL
 ·have lb345:=(kv0.fc).le
  exact tL
theorem tF131_4 {v0 v1} {v2:List G159} (kv0:okG27 v0) (kl:v2.length+11<=500000000000):Tot (F131_4 v0 v1 v2) (λr=>r.length<=v2.length+11):=by
 refine Xb (Xe (λ(v4,v5)=>v4) 10 (by decide) (λ(v4,v5)=>(v5.length:Int)<=v2.length+0+1*v4) (T:=λr=>r.length<=v2.length+11) tB tB tZ ?_) ?_
 ·rintro⟨v4,v5⟩ hI h0 h1
  try dsimp only at hI h0 h1 ⊢
  refine(tLF131_4_11 kv0 tI h0 h1).mono ?_
  exact tM
 ·rintro v6 ho7
  try dsimp only at ho7 ⊢
  exact tL
theorem tF137_1 {v0 v1} {v2:List G159} (kv0:okG27 v0) (kl:v2.length+11<=500000000000):Tot (F137_1 v0 v1 v2) (λr=>r.length<=v2.length+11):=by
 refine Xb (tF131_4 kv0 tI) λv7 hv7=>?_
 exact tL
theorem tF65_1 {v0 v1} {v2:List G159} (kv0:okG27 v0) (kl:v2.length+11<=500000000000):Tot (F65_1 v0 v1 v2) (λr=>r.length<=v2.length+11):=by
 refine Xb (tF137_1 kv0 tI) λv7 hv7=>?_
 exact tL
theorem tF139 {v0}:Tot (F139 v0) (λ_=>True):=by
 refine t_bn (λc347=>?_) λc347=>?_
 ·refine Xb (tF138) λv2 hv2=>?_
  exact tL
 ·exact tL
theorem tF211_2 {v0 v1} (kv0:okG100 v0):Tot (F211_2 v0 v1) (λ_=>True):=by
 refine Xb (tF212_1 (kv0.fg).mono) λv3 hv3=>?_
 refine Xc (λc348=>?_) λc348=>?_
 ·refine Xb (tF213 kv0) λv6 hv6=>?_
  refine Xb (tF139) λv8 hv8=>?_
  exact tL
 ·exact tL
theorem tJF279_2_2:Tot (JF279_2_2 ) (λ_=>True):=by
 exact tL
theorem tLF279_2_9 {v0:Sl G100} {v1} {v3:Int} (kv0:(OkSl okG100 1000) v0) (b0:0<=v3) (b1:v3<=1000):Tot (LF279_2_9 v0 v1 v3) (λr=>match r with|.inl r=>(r=v3+1/\v3<1000)|.inr (.inl r)=>True|.inr (.inr r)=>True):=by
 refine t_bd (λc349=>?_) λc349=>?_
 ·have lc349:=(kv0).le
  refine t_bi (Xg kv0 tI tI) λv11 hv11 ov11=>?_
  refine Xb (tF211_2 hv11) λv15 hv15=>?_
  refine Xc (λc350=>?_) λc350=>?_
  ·exact tL
  ·exact tL
 ·have lb351:=(kv0).le
  exact tL
theorem tF279_2 {v0:Sl G100} {v1} (kv0:(OkSl okG100 1000) v0):Tot (F279_2 v0 v1) (λ_=>True):=by
 refine Xb (Xe (λv3=>v3) 1000 (by decide) (λv3=>True) (T:=tru) tB tB tZ ?_) ?_
 ·rintro v3 hI h0 h1
  refine(tLF279_2_9 kv0 h0 h1).mono ?_
  exact tM
 ·rintro(v4|⟨⟩) ho5
  ·try dsimp only at ho5 ⊢
   exact tL
  ·try dsimp only at ho5 ⊢
   exact tJF279_2_2
theorem tF210_2 {v0:Sl G100} {v1} (kv0:(OkSl okG100 1000) v0):Tot (F210_2 v0 v1) (λ_=>True):=by
 refine Xb (tF279_2 kv0) λv4 hv4=>?_
 exact tL
theorem tF209_2 {v0 v1} (kv0:okG95 v0):Tot (F209_2 v0 v1) (λ_=>True):=by
 refine Xb (tF210_2 (kv0.ff).mono) λv4 hv4=>?_
 exact tL
theorem tJF278_2_2:Tot (JF278_2_2 ) (λ_=>True):=by
 exact tL
theorem tLF278_2_9 {v0:Sl G95} {v1} {v3:Int} (kv0:(OkSl okG95 1000) v0) (b0:0<=v3) (b1:v3<=1000):Tot (LF278_2_9 v0 v1 v3) (λr=>match r with|.inl r=>(r=v3+1/\v3<1000)|.inr (.inl r)=>True|.inr (.inr r)=>True):=by
 refine t_bd (λc353=>?_) λc353=>?_
 ·have lc353:=(kv0).le
  refine t_bi (Xg kv0 tI tI) λv11 hv11 ov11=>?_
  refine Xb (tF209_2 hv11) λv15 hv15=>?_
  refine Xc (λc354=>?_) λc354=>?_
  ·exact tL
  ·exact tL
 ·have lb355:=(kv0).le
  exact tL
theorem tF278_2 {v0:Sl G95} {v1} (kv0:(OkSl okG95 1000) v0):Tot (F278_2 v0 v1) (λ_=>True):=by
 refine Xb (Xe (λv3=>v3) 1000 (by decide) (λv3=>True) (T:=tru) tB tB tZ ?_) ?_
 ·rintro v3 hI h0 h1
  refine(tLF278_2_9 kv0 h0 h1).mono ?_
  exact tM
 ·rintro(v4|⟨⟩) ho5
  ·try dsimp only at ho5 ⊢
   exact tL
  ·try dsimp only at ho5 ⊢
   exact tJF278_2_2
theorem tF208_2 {v0:Sl G95} {v1} (kv0:(OkSl okG95 1000) v0):Tot (F208_2 v0 v1) (λ_=>True):=by
 refine Xb (tF278_2 kv0) λv4 hv4=>?_
 exact tL
theorem tF206_2 {v0 v1} (kv1:okG75 v1):Tot (F206_2 v0 v1) (λ_=>True):=by
 refine Xb (tF99 kv1) λv2 hv2=>?_
 refine t_bn (λc357=>?_) λc357=>?_
 ·exact tL
 ·refine Xb (tF208_2 (kv1.fe).mono) λv7 hv7=>?_
  exact tL
theorem tLF131_5_11 {v0 v1} {v4:Int} {v5:List G159} (kv0:okG27 v0) (kl:v5.length+1<=500000000000) (b0:0<=v4) (b1:v4<=10):Tot (LF131_5_11 v0 v1 v4 v5) (λr=>match r with|.inl r=>(r.1=v4+1/\v4<10)/\r.2.length<=v5.length+1|.inr r=>r.length<=v5.length+1):=by
 refine t_bd (λc358=>?_) λc358=>?_
 ·have lc358:=(kv0.fc).le
  refine t_bi (Xg (kv0.fc) tI tI) λv13 hv13 ov13=>?_
  refine Xb (tF206_2 hv13) λv17 hv17=>?_
  refine Xb (Xz kv0 tI) λv24 hv24=>?_
  exact tL
 ·have lb359:=(kv0.fc).le
  exact tL
theorem tF131_5 {v0 v1} {v2:List G159} (kv0:okG27 v0) (kl:v2.length+11<=500000000000):Tot (F131_5 v0 v1 v2) (λr=>r.length<=v2.length+11):=by
 refine Xb (Xe (λ(v4,v5)=>v4) 10 (by decide) (λ(v4,v5)=>(v5.length:Int)<=v2.length+0+1*v4) (T:=λr=>r.length<=v2.length+11) tB tB tZ ?_) ?_
 ·rintro⟨v4,v5⟩ hI h0 h1
  try dsimp only at hI h0 h1 ⊢
  refine(tLF131_5_11 kv0 tI h0 h1).mono ?_
  exact tM
 ·rintro v6 ho7
  try dsimp only at ho7 ⊢
  exact tL
theorem tF137_2 {v0 v1} {v2:List G159} (kv0:okG27 v0) (kl:v2.length+11<=500000000000):Tot (F137_2 v0 v1 v2) (λr=>r.length<=v2.length+11):=by
 refine Xb (tF131_5 kv0 tI) λv7 hv7=>?_
 exact tL
theorem tF66_1 {v0 v1} {v2:List G159} (kv0:okG27 v0) (kl:v2.length+11<=500000000000):Tot (F66_1 v0 v1 v2) (λr=>r.length<=v2.length+11):=by
 refine Xb (tF137_2 kv0 tI) λv7 hv7=>?_
 exact tL
theorem tF141 {v0 v1} (kv1:okG147 v1):Tot (F141 v0 v1) (λ_=>True):=by
 refine Xb (tF142 kv1) λv2 hv2=>?_
 exact tL
theorem tJF140_1_14 {v4:Int} {v13:List G159} (kl:v13.length+0<=500000000000) (b0:0<=v4) (b1:v4<10):Tot (Qf v4 v13) (λr=>match r with|.inl r=>(r.1=v4+1/\v4<10)/\r.2.length<=v13.length+0|.inr r=>r.length<=v13.length+0):=by
 exact tL
theorem tJF140_1_27 {v17:Int} {v26:List G159} (kl:v26.length+0<=500000000000) (b0:0<=v17) (b1:v17<5):Tot (Qe v17 v26) (λr=>match r with|.inl r=>(r.1=v17+1/\v17<5)/\r.2.length<=v26.length+0|.inr r=>r.length<=v26.length+0):=by
 exact tL
theorem tJF140_1_40 {v30:Int} {v39:List G159} (kl:v39.length+0<=500000000000) (b0:0<=v30) (b1:v30<3):Tot (Qd v30 v39) (λr=>match r with|.inl r=>(r.1=v30+1/\v30<3)/\r.2.length<=v39.length+0|.inr r=>r.length<=v39.length+0):=by
 exact tL
theorem tLF140_1_50 {v41 v17 v4 v30 v0 v1} {v43:Int} {v44:List G159} (kv41:okG100 v41) (kv0:okG27 v0) (kl:v44.length+1<=500000000000) (b0:0<=v43) (b1:v43<=1000):Tot (LF140_1_50 v41 v17 v4 v30 v0 v1 v43 v44) (λr=>match r with|.inl r=>(r.1=v43+1/\v43<1000)/\r.2.length<=v44.length+1|.inr r=>r.length<=v44.length+1):=by
 refine t_bd (λc361=>?_) λc361=>?_
 ·have lc361:=(kv41.fg).le
  refine t_bi (Xg (kv41.fg) tI tI) λv52 hv52 ov52=>?_
  refine Xb (tF141 hv52) λv54 hv54=>?_
  refine Xb (Xz kv0 tI) λv61 hv61=>?_
  exact tL
 ·have lb362:=(kv41.fg).le
  exact tL
theorem tLF140_1_37 {v28 v17 v4 v0 v1} {v30:Int} {v31:List G159} (kv28:okG95 v28) (kv0:okG27 v0) (kl:v31.length+1001<=500000000000) (b0:0<=v30) (b1:v30<=3):Tot (LF140_1_37 v28 v17 v4 v0 v1 v30 v31) (λr=>match r with|.inl r=>(r.1=v30+1/\v30<3)/\r.2.length<=v31.length+1001|.inr r=>r.length<=v31.length+1001):=by
 refine t_bd (λc363=>?_) λc363=>?_
 ·have lc363:=(kv28.ff).le
  refine t_bi (Xg (kv28.ff) tI tI) λv41 hv41 ov41=>?_
  refine Xb (Xe (λ(v43,v44)=>v43) 1000 (by decide) (λ(v43,v44)=>(v44.length:Int)<=v31.length+0+1*v43) (T:=λr=>r.length<=v31.length+1001) tB tB tZ ?_) ?_
  ·rintro⟨v43,v44⟩ hI h0 h1
   try dsimp only at hI h0 h1 ⊢
   refine(tLF140_1_50 hv41 kv0 tI h0 h1).mono ?_
   exact tM
  ·rintro v45 ho46
   try dsimp only at ho46 ⊢
   exact(tJF140_1_40 tI tI tI).mono tM
 ·have lb365:=(kv28.ff).le
  exact tL
theorem tLF140_1_24 {v15 v4 v0 v1} {v17:Int} {v18:List G159} (kv15:okG75 v15) (kv0:okG27 v0) (kl:v18.length+4004<=500000000000) (b0:0<=v17) (b1:v17<=5):Tot (LF140_1_24 v15 v4 v0 v1 v17 v18) (λr=>match r with|.inl r=>(r.1=v17+1/\v17<5)/\r.2.length<=v18.length+4004|.inr r=>r.length<=v18.length+4004):=by
 refine t_bd (λc366=>?_) λc366=>?_
 ·have lc366:=(kv15.fe).le
  refine t_bi (Xg (kv15.fe) tI tI) λv28 hv28 ov28=>?_
  refine Xb (Xe (λ(v30,v31)=>v30) 3 (by decide) (λ(v30,v31)=>(v31.length:Int)<=v18.length+0+1001*v30) (T:=λr=>r.length<=v18.length+4004) tB tB tZ ?_) ?_
  ·rintro⟨v30,v31⟩ hI h0 h1
   try dsimp only at hI h0 h1 ⊢
   refine(tLF140_1_37 hv28 kv0 tI h0 h1).mono ?_
   exact tM
  ·rintro v32 ho33
   try dsimp only at ho33 ⊢
   exact(tJF140_1_27 tI tI tI).mono tM
 ·have lb368:=(kv15.fe).le
  exact tL
theorem tLF140_1_11 {v0 v1} {v4:Int} {v5:List G159} (kv0:okG27 v0) (kl:v5.length+24024<=500000000000) (b0:0<=v4) (b1:v4<=10):Tot (LF140_1_11 v0 v1 v4 v5) (λr=>match r with|.inl r=>(r.1=v4+1/\v4<10)/\r.2.length<=v5.length+24024|.inr r=>r.length<=v5.length+24024):=by
 refine t_bd (λc369=>?_) λc369=>?_
 ·have lc369:=(kv0.fc).le
  refine t_bi (Xg (kv0.fc) tI tI) λv15 hv15 ov15=>?_
  refine Xb (Xe (λ(v17,v18)=>v17) 5 (by decide) (λ(v17,v18)=>(v18.length:Int)<=v5.length+0+4004*v17) (T:=λr=>r.length<=v5.length+24024) tB tB tZ ?_) ?_
  ·rintro⟨v17,v18⟩ hI h0 h1
   try dsimp only at hI h0 h1 ⊢
   refine(tLF140_1_24 hv15 kv0 tI h0 h1).mono ?_
   exact tM
  ·rintro v19 ho20
   try dsimp only at ho20 ⊢
   exact(tJF140_1_14 tI tI tI).mono tM
 ·have lb371:=(kv0.fc).le
  exact tL
theorem tF140_1 {v0 v1} {v2:List G159} (kv0:okG27 v0) (kl:v2.length+264264<=500000000000):Tot (F140_1 v0 v1 v2) (λr=>r.length<=v2.length+264264):=by
 refine Xb (Xe (λ(v4,v5)=>v4) 10 (by decide) (λ(v4,v5)=>(v5.length:Int)<=v2.length+0+24024*v4) (T:=λr=>r.length<=v2.length+264264) tB tB tZ ?_) ?_
 ·rintro⟨v4,v5⟩ hI h0 h1
  try dsimp only at hI h0 h1 ⊢
  refine(tLF140_1_11 kv0 tI h0 h1).mono ?_
  exact tM
 ·rintro v6 ho7
  try dsimp only at ho7 ⊢
  exact tL
theorem tF67_1 {v0 v1} {v2:List G159} (kv0:okG27 v0) (kl:v2.length+264264<=500000000000):Tot (F67_1 v0 v1 v2) (λr=>r.length<=v2.length+264264):=by
 refine Xb (tF140_1 kv0 tI) λv7 hv7=>?_
 exact tL
theorem tLF144_12 {v0 v4} {v5:Int} (kv0:okG27 v0) (b0:0<=v5) (b1:v5<=4):Tot (LF144_12 v0 v4 v5) (λr=>match r with|.inl r=>True/\(r.2=v5+1/\v5<4)|.inr (.inl r)=>True/\True|.inr (.inr r)=>True):=by
 refine t_bd (λc373=>?_) λc373=>?_
 ·have lc373:=(kv0.fh).le
  refine t_bi (Xg (kv0.fh) tI tI) λv14 hv14 ov14=>?_
  refine t_bd (λc374=>?_) λc374=>?_
  ·have lc374:=(hv14.ft).le
   exact tL
  ·have lb375:=(hv14.ft).le
   exact tL
 ·have lb376:=(kv0.fh).le
  exact tL
theorem tLF144_12w {v0:G27} {v4 v5:Int} (kv0:okG27 v0) (b0:0<=v5) (b1:v5<=4):Tot (LF144_12 v0 v4 v5) (λr=>match r with|.inl r=>r.2=v5+1/\v5<4|.inr (.inl r)=>0<=r.1/\r.1<ln v0.fh|.inr (.inr _)=>True):=by
 refine t_bd (λc=>?_) (λc=>?_)
 ·have lc:=(kv0.fh).le
  refine Xb (Xg (kv0.fh) tI tI) λv14 hv14=>?_
  refine Xc (λc1=>?_) (λc1=>?_)
  ·exact Xd ⟨b0,c⟩
  ·exact tL
 ·exact tL
theorem tF144w {v0:G27} {v1:Int} (kv0:okG27 v0):Tot (F144 v0 v1) (λr=>r.2.2=0->0<=r.1/\r.1<ln v0.fh):=by
 refine Xc (λc=>Xd (λh=>absurd h (by decide))) λc=>?_
 refine Xb (Xe (λ(v4,v5)=>v5) 4 (by decide) (λ_=>True) (T:=λo=>match o with|.inl r=>0<=r.1/\r.1<ln v0.fh|.inr _=>True) tB tB trivial ?_) ?_
 ·rintro⟨v4,v5⟩ hI h0 h1
  refine(tLF144_12w kv0 h0 h1).mono ?_
  rintro(⟨a,b⟩|⟨a,b⟩|a) h
  ·exact⟨trivial,h.1,h.2⟩
  ·exact h
  ·trivial
 ·rintro(⟨v6,v7⟩|⟨⟩) h
  ·exact Xd λ_=>h
  ·unfold JF144_3
   exact Xd (λh=>absurd h (by decide))
theorem tF145_1 {v0 v1}:Tot (F145_1 v0 v1) (λ_=>True):=by
 refine Xb (tF77) λv2 hv2=>?_
 refine Xb (Wk) λv4 hv4=>?_
 exact tL
theorem tF147_1 {v0 v1}:Tot (F147_1 v0 v1) (λ_=>True):=by
 refine Xb (tF145_1) λv4 hv4=>?_
 exact tL
theorem tJF222_1_2:Tot (JF222_1_2 ) (λ_=>True):=by
 exact tL
theorem tLF222_1_9 {v0:Sl G182} {v1} {v3:Int} (kv0:(OkSl (λ_=>True) 1000) v0) (b0:0<=v3) (b1:v3<=1000):Tot (LF222_1_9 v0 v1 v3) (λr=>match r with|.inl r=>(r=v3+1/\v3<1000)|.inr (.inl r)=>True|.inr (.inr r)=>True):=by
 refine t_bd (λc377=>?_) λc377=>?_
 ·have lc377:=(kv0).le
  refine t_bi (Xg kv0 tI tI) λv11 hv11 ov11=>?_
  refine Xb (tF147_1) λv15 hv15=>?_
  refine Xc (λc378=>?_) λc378=>?_
  ·exact tL
  ·exact tL
 ·have lb379:=(kv0).le
  exact tL
theorem tF222_1 {v0:Sl G182} {v1} (kv0:(OkSl (λ_=>True) 1000) v0):Tot (F222_1 v0 v1) (λ_=>True):=by
 refine Xb (Xe (λv3=>v3) 1000 (by decide) (λv3=>True) (T:=tru) tB tB tZ ?_) ?_
 ·rintro v3 hI h0 h1
  refine(tLF222_1_9 kv0 h0 h1).mono ?_
  exact tM
 ·rintro(v4|⟨⟩) ho5
  ·try dsimp only at ho5 ⊢
   exact tL
  ·try dsimp only at ho5 ⊢
   exact tJF222_1_2
theorem tF146_1 {v0:Sl G182} {v1} (kv0:(OkSl (λ_=>True) 1000) v0):Tot (F146_1 v0 v1) (λ_=>True):=by
 refine Xb (tF222_1 kv0) λv4 hv4=>?_
 exact tL
theorem tF149_1 {v0 v1}:Tot (F149_1 v0 v1) (λ_=>True):=by
 refine Xb (tF145_1) λv4 hv4=>?_
 exact tL
theorem tJF223_1_2:Tot (JF223_1_2 ) (λ_=>True):=by
 exact tL
theorem tLF223_1_9 {v0:Sl G245} {v1} {v3:Int} (kv0:(OkSl (λ_=>True) 1000) v0) (b0:0<=v3) (b1:v3<=1000):Tot (LF223_1_9 v0 v1 v3) (λr=>match r with|.inl r=>(r=v3+1/\v3<1000)|.inr (.inl r)=>True|.inr (.inr r)=>True):=by
 refine t_bd (λc381=>?_) λc381=>?_
 ·have lc381:=(kv0).le
  refine t_bi (Xg kv0 tI tI) λv11 hv11 ov11=>?_
  refine Xb (tF149_1) λv15 hv15=>?_
  refine Xc (λc382=>?_) λc382=>?_
  ·exact tL
  ·exact tL
 ·have lb383:=(kv0).le
  exact tL
theorem tF223_1 {v0:Sl G245} {v1} (kv0:(OkSl (λ_=>True) 1000) v0):Tot (F223_1 v0 v1) (λ_=>True):=by
 refine Xb (Xe (λv3=>v3) 1000 (by decide) (λv3=>True) (T:=tru) tB tB tZ ?_) ?_
 ·rintro v3 hI h0 h1
  refine(tLF223_1_9 kv0 h0 h1).mono ?_
  exact tM
 ·rintro(v4|⟨⟩) ho5
  ·try dsimp only at ho5 ⊢
   exact tL
  ·try dsimp only at ho5 ⊢
   exact tJF223_1_2
theorem tF148_1 {v0:Sl G245} {v1} (kv0:(OkSl (λ_=>True) 1000) v0):Tot (F148_1 v0 v1) (λ_=>True):=by
 refine Xb (tF223_1 kv0) λv4 hv4=>?_
 exact tL
theorem tJF143_1_17 {v7 v16} (kv7:okG147 v7):Tot (JF143_1_17 v7 v16) (λ_=>True):=by
 refine Xb (tF146_1 (kv7.fv).mono) λv20 hv20=>?_
 refine Xc (λc385=>?_) λc385=>?_
 ·exact tL
 ·refine Xb (tF148_1 (kv7.fS).mono) λv25 hv25=>?_
  exact tL
theorem tJF143_1_15 {v8 v7 v14} (kv8:okG27 v8) (kv7:okG147 v7):Tot (JF143_1_15 v8 v7 v14) (λ_=>True):=by
 refine Xc (λc386=>?_) λc386=>?_
 ·exact tJF143_1_17 kv7
 ·exact tJF143_1_17 kv7
theorem tF143_1 {v0 v1 v2 v3 v4 v5 v6 v7 v8 v9} {v10:List G159} (kv7:okG147 v7) (kv8:okG27 v8) (kl:v10.length+0<=500000000000):Tot (F143_1 v0 v1 v2 v3 v4 v5 v6 v7 v8 v9 v10) (λ_=>True):=by
 refine Xb (tF142 kv7) λv11 hv11=>?_
 refine Xc (λc=>?_) (λc=>?_)
 ·exact tL
 ·refine Xb (tF144w kv8) λv28 hv28=>?_
  refine Xc (λc1=>?_) (λc1=>?_)
  ·obtain⟨q0,q1⟩:=hv28 (eq_of_beq c1)
   refine Xb (Xg (kv8.fh) q0 q1) λv31 hv31=>?_
   exact(tJF143_1_15 kv8 kv7).mono tM
  ·exact(tJF143_1_15 kv8 kv7).mono tM
theorem tJF140_2_14 {v4:Int} {v13:List G159} (kl:v13.length+0<=500000000000) (b0:0<=v4) (b1:v4<10):Tot (Qc v4 v13) (λr=>match r with|.inl r=>(r.1=v4+1/\v4<10)/\r.2.length<=v13.length+0|.inr r=>r.length<=v13.length+0):=by
 exact tL
theorem tJF140_2_27 {v17:Int} {v26:List G159} (kl:v26.length+0<=500000000000) (b0:0<=v17) (b1:v17<5):Tot (Qb v17 v26) (λr=>match r with|.inl r=>(r.1=v17+1/\v17<5)/\r.2.length<=v26.length+0|.inr r=>r.length<=v26.length+0):=by
 exact tL
theorem tJF140_2_40 {v30:Int} {v39:List G159} (kl:v39.length+0<=500000000000) (b0:0<=v30) (b1:v30<3):Tot (Qa v30 v39) (λr=>match r with|.inl r=>(r.1=v30+1/\v30<3)/\r.2.length<=v39.length+0|.inr r=>r.length<=v39.length+0):=by
 exact tL
theorem tLF140_2_50 {v41 v17 v4 v30 v0 v1} {v43:Int} {v44:List G159} (kv41:okG100 v41) (kv0:okG27 v0) (kl:v44.length+1<=500000000000) (b0:0<=v43) (b1:v43<=1000):Tot (LF140_2_50 v41 v17 v4 v30 v0 v1 v43 v44) (λr=>match r with|.inl r=>(r.1=v43+1/\v43<1000)/\r.2.length<=v44.length+1|.inr r=>r.length<=v44.length+1):=by
 refine t_bd (λc387=>?_) λc387=>?_
 ·have lc387:=(kv41.fg).le
  refine t_bi (Xg (kv41.fg) tI tI) λv52 hv52 ov52=>?_
  refine Xb (tF143_1 hv52 kv0 tI) λv65 hv65=>?_
  refine Xb (Xz kv0 tI) λv72 hv72=>?_
  exact tL
 ·have lb388:=(kv41.fg).le
  exact tL
theorem tLF140_2_37 {v28 v17 v4 v0 v1} {v30:Int} {v31:List G159} (kv28:okG95 v28) (kv0:okG27 v0) (kl:v31.length+1001<=500000000000) (b0:0<=v30) (b1:v30<=3):Tot (LF140_2_37 v28 v17 v4 v0 v1 v30 v31) (λr=>match r with|.inl r=>(r.1=v30+1/\v30<3)/\r.2.length<=v31.length+1001|.inr r=>r.length<=v31.length+1001):=by
 refine t_bd (λc389=>?_) λc389=>?_
 ·have lc389:=(kv28.ff).le
  refine t_bi (Xg (kv28.ff) tI tI) λv41 hv41 ov41=>?_
  refine Xb (Xe (λ(v43,v44)=>v43) 1000 (by decide) (λ(v43,v44)=>(v44.length:Int)<=v31.length+0+1*v43) (T:=λr=>r.length<=v31.length+1001) tB tB tZ ?_) ?_
  ·rintro⟨v43,v44⟩ hI h0 h1
   try dsimp only at hI h0 h1 ⊢
   refine(tLF140_2_50 hv41 kv0 tI h0 h1).mono ?_
   exact tM
  ·rintro v45 ho46
   try dsimp only at ho46 ⊢
   exact(tJF140_2_40 tI tI tI).mono tM
 ·have lb391:=(kv28.ff).le
  exact tL
theorem tLF140_2_24 {v15 v4 v0 v1} {v17:Int} {v18:List G159} (kv15:okG75 v15) (kv0:okG27 v0) (kl:v18.length+4004<=500000000000) (b0:0<=v17) (b1:v17<=5):Tot (LF140_2_24 v15 v4 v0 v1 v17 v18) (λr=>match r with|.inl r=>(r.1=v17+1/\v17<5)/\r.2.length<=v18.length+4004|.inr r=>r.length<=v18.length+4004):=by
 refine t_bd (λc392=>?_) λc392=>?_
 ·have lc392:=(kv15.fe).le
  refine t_bi (Xg (kv15.fe) tI tI) λv28 hv28 ov28=>?_
  refine Xb (Xe (λ(v30,v31)=>v30) 3 (by decide) (λ(v30,v31)=>(v31.length:Int)<=v18.length+0+1001*v30) (T:=λr=>r.length<=v18.length+4004) tB tB tZ ?_) ?_
  ·rintro⟨v30,v31⟩ hI h0 h1
   try dsimp only at hI h0 h1 ⊢
   refine(tLF140_2_37 hv28 kv0 tI h0 h1).mono ?_
   exact tM
  ·rintro v32 ho33
   try dsimp only at ho33 ⊢
   exact(tJF140_2_27 tI tI tI).mono tM
 ·have lb394:=(kv15.fe).le
  exact tL
theorem tLF140_2_11 {v0 v1} {v4:Int} {v5:List G159} (kv0:okG27 v0) (kl:v5.length+24024<=500000000000) (b0:0<=v4) (b1:v4<=10):Tot (LF140_2_11 v0 v1 v4 v5) (λr=>match r with|.inl r=>(r.1=v4+1/\v4<10)/\r.2.length<=v5.length+24024|.inr r=>r.length<=v5.length+24024):=by
 refine t_bd (λc395=>?_) λc395=>?_
 ·have lc395:=(kv0.fc).le
  refine t_bi (Xg (kv0.fc) tI tI) λv15 hv15 ov15=>?_
  refine Xb (Xe (λ(v17,v18)=>v17) 5 (by decide) (λ(v17,v18)=>(v18.length:Int)<=v5.length+0+4004*v17) (T:=λr=>r.length<=v5.length+24024) tB tB tZ ?_) ?_
  ·rintro⟨v17,v18⟩ hI h0 h1
   try dsimp only at hI h0 h1 ⊢
   refine(tLF140_2_24 hv15 kv0 tI h0 h1).mono ?_
   exact tM
  ·rintro v19 ho20
   try dsimp only at ho20 ⊢
   exact(tJF140_2_14 tI tI tI).mono tM
 ·have lb397:=(kv0.fc).le
  exact tL
theorem tF140_2 {v0 v1} {v2:List G159} (kv0:okG27 v0) (kl:v2.length+264264<=500000000000):Tot (F140_2 v0 v1 v2) (λr=>r.length<=v2.length+264264):=by
 refine Xb (Xe (λ(v4,v5)=>v4) 10 (by decide) (λ(v4,v5)=>(v5.length:Int)<=v2.length+0+24024*v4) (T:=λr=>r.length<=v2.length+264264) tB tB tZ ?_) ?_
 ·rintro⟨v4,v5⟩ hI h0 h1
  try dsimp only at hI h0 h1 ⊢
  refine(tLF140_2_11 kv0 tI h0 h1).mono ?_
  exact tM
 ·rintro v6 ho7
  try dsimp only at ho7 ⊢
  exact tL
theorem tF68_1 {v0 v1} {v2:List G159} (kv0:okG27 v0) (kl:v2.length+264264<=500000000000):Tot (F68_1 v0 v1 v2) (λr=>r.length<=v2.length+264264):=by
 refine Xb (tF140_2 kv0 tI) λv7 hv7=>?_
 exact tL
theorem tF224 {v0}:Tot (F224 v0) (λ_=>True):=by
 exact tL
theorem tJF222_2_1:Tot (JF222_2_1 ) (λ_=>True):=by
 exact tL
theorem tLF222_2_8 {v0:Sl G182} {v2:Int} (kv0:(OkSl (λ_=>True) 1000) v0) (b0:0<=v2) (b1:v2<=1000):Tot (LF222_2_8 v0 v2) (λr=>match r with|.inl r=>(r=v2+1/\v2<1000)|.inr (.inl r)=>True|.inr (.inr r)=>True):=by
 refine t_bd (λc399=>?_) λc399=>?_
 ·have lc399:=(kv0).le
  refine t_bi (Xg kv0 tI tI) λv10 hv10 ov10=>?_
  refine Xb (tF224) λv12 hv12=>?_
  refine Xc (λc400=>?_) λc400=>?_
  ·exact tL
  ·exact tL
 ·have lb401:=(kv0).le
  exact tL
theorem tF222_2 {v0:Sl G182} (kv0:(OkSl (λ_=>True) 1000) v0):Tot (F222_2 v0) (λ_=>True):=by
 refine Xb (Xe (λv2=>v2) 1000 (by decide) (λv2=>True) (T:=tru) tB tB tZ ?_) ?_
 ·rintro v2 hI h0 h1
  refine(tLF222_2_8 kv0 h0 h1).mono ?_
  exact tM
 ·rintro(v3|⟨⟩) ho4
  ·try dsimp only at ho4 ⊢
   exact tL
  ·try dsimp only at ho4 ⊢
   exact tJF222_2_1
theorem tF146_2 {v0:Sl G182} (kv0:(OkSl (λ_=>True) 1000) v0):Tot (F146_2 v0) (λ_=>True):=by
 refine Xb (tF222_2 kv0) λv2 hv2=>?_
 exact tL
theorem tF151 {v0} (kv0:okG147 v0):Tot (F151 v0) (λ_=>True):=by
 refine t_be (λc403=>?_) λc403=>?_
 ·refine Xb (tF146_2 (kv0.fv).mono) λv3 hv3=>?_
  exact tL
 ·exact tL
theorem tJF226_5 {v0:G27} {v1:Int} {v2:Int} {v3:Int} {v4:Bool} (kv0:okG27 v0) (q0:v4=false->(0<=v1/\v1<ln v0.fc)) (q1:v4=false->(∀ v7,gx (Sl.es v0.fc) v1=some v7->0<=v2/\v2<ln v7.fe)) (q2:v4=false->(∀ v7,gx (Sl.es v0.fc) v1=some v7->∀ v9,gx (Sl.es v7.fe) v2=some v9->0<=v3/\v3<ln v9.ff)):Tot (Vh v0 v1 v2 v3 v4) (λr=>(ln r<=1000/\∀ y∈Sl.es r,okG147 y)):=by
 refine Xc (λc404=>?_) λc404=>?_
 ·exact tL
 ·have qq405:=q0 c404
  refine t_bi (Xg (kv0.fc) tI tI) λv7 hv7 ov7=>?_
  have qq406:=q1 c404 v7 ov7
  refine t_bi (Xg (hv7.fe) tI tI) λv9 hv9 ov9=>?_
  have qq407:=q2 c404 v7 ov7 v9 ov9
  refine t_bi (Xg (hv9.ff) tI tI) λv11 hv11 ov11=>?_
  have lb408:=(hv11.fg).le
  have hel409:=(hv11.fg).2
  exact tL
theorem tF226 {v0 v1 v2 v3} (kv0:okG27 v0):Tot (F226 v0 v1 v2 v3) (λr=>(ln r<=1000/\∀ y∈Sl.es r,okG147 y)):=by
 refine t_bd (λc410=>?_) λc410=>?_
 ·exact(tJF226_5 kv0 (by intros;simp_all only [Bool.false_eq_true,Bool.true_eq_false,reduceCtorEq]) (by intros;simp_all only [Bool.false_eq_true,Bool.true_eq_false,reduceCtorEq]) (by intros;simp_all only [Bool.false_eq_true,Bool.true_eq_false,reduceCtorEq])).mono tM
 ·refine t_bd (λc411=>?_) λc411=>?_
  ·have lb412:=(kv0.fc).le
   exact(tJF226_5 kv0 (by intros;simp_all only [Bool.false_eq_true,Bool.true_eq_false,reduceCtorEq]) (by intros;simp_all only [Bool.false_eq_true,Bool.true_eq_false,reduceCtorEq]) (by intros;simp_all only [Bool.false_eq_true,Bool.true_eq_false,reduceCtorEq])).mono tM
  ·have lb413:=(kv0.fc).le
   refine t_bd (λc414=>?_) λc414=>?_
   ·exact(tJF226_5 kv0 (by intros;simp_all only [Bool.false_eq_true,Bool.true_eq_false,reduceCtorEq]) (by intros;simp_all only [Bool.false_eq_true,Bool.true_eq_false,reduceCtorEq]) (by intros;simp_all only [Bool.false_eq_true,Bool.true_eq_false,reduceCtorEq])).mono tM
   ·refine t_bi (Xg (kv0.fc) tI tI) λv16 hv16 ov16=>?_
    refine t_bd (λc415=>?_) λc415=>?_
    ·have lb416:=(hv16.fe).le
     exact(tJF226_5 kv0 (by intros;simp_all only [Bool.false_eq_true,Bool.true_eq_false,reduceCtorEq]) (by intros;simp_all only [Bool.false_eq_true,Bool.true_eq_false,reduceCtorEq]) (by intros;simp_all only [Bool.false_eq_true,Bool.true_eq_false,reduceCtorEq])).mono tM
    ·have lb417:=(hv16.fe).le
     refine t_bd (λc418=>?_) λc418=>?_
     ·exact(tJF226_5 kv0 (by intros;simp_all only [Bool.false_eq_true,Bool.true_eq_false,reduceCtorEq]) (by intros;simp_all only [Bool.false_eq_true,Bool.true_eq_false,reduceCtorEq]) (by intros;simp_all only [Bool.false_eq_true,Bool.true_eq_false,reduceCtorEq])).mono tM
     ·refine t_bi (Xg (kv0.fc) tI tI) λv20 hv20 ov20=>?_
      obtain rfl:=Option.some.inj (ov16.symm.trans ov20)
      refine t_bi (Xg (hv16.fe) tI tI) λv22 hv22 ov22=>?_
      have lb420:=(hv22.ff).le
      exact(tJF226_5 kv0 (by intro g419;replace g419:=of_decide_eq_false g419;exact tI) (by intro g421;replace g421:=of_decide_eq_false g421;exact(oq ov16 tI)) (by intro g423;replace g423:=of_decide_eq_false g423;exact(oq ov16 (oq ov22 tI)))).mono tM
theorem tJF225_4 {v3}:Tot (JF225_4 v3) (λ_=>True):=by
 refine Xc (λc426=>?_) λc426=>?_
 ·exact tL
 ·exact tL
theorem tF225 {v0 v1} (kv0:okG27 v0):Tot (F225 v0 v1) (λ_=>True):=by
 refine t_bn (λc427=>?_) λc427=>?_
 ·exact tL
 ·refine t_bd (λc428=>?_) λc428=>?_
  ·exact tJF225_4
  ·refine Xb (tF226 kv0) λv7 hv7=>?_
   exact tJF225_4
theorem tF227 {v0 v1 v2 v3}:Tot (F227 v0 v1 v2 v3) (λ_=>True):=by
 exact tL
theorem tF152 {v0 v1} (kv0:okG27 v0):Tot (F152 v0 v1) (λ_=>True):=by
 refine Xb (tF225 kv0) λv2 hv2=>?_
 refine t_bn (λc429=>?_) λc429=>?_
 ·exact tL
 ·refine Xb (tF226 kv0) λv5 hv5=>?_
  refine t_bd (λc430=>?_) λc430=>?_
  ·have lc430:=(OkSl.mk2 (n:=1000) hv5.1 hv5.2).le
   refine Xb (tF227) λv8 hv8=>?_
   exact tL
  ·have lb431:=(OkSl.mk2 (n:=1000) hv5.1 hv5.2).le
   refine Xb (tF226 kv0) λv10 hv10=>?_
   refine t_bd (λc432=>?_) λc432=>?_
   ·have lb433:=(OkSl.mk2 (n:=1000) hv10.1 hv10.2).le
    refine Xb (tF227) λv13 hv13=>?_
    exact tL
   ·have lb434:=(OkSl.mk2 (n:=1000) hv10.1 hv10.2).le
    exact tL
theorem tF288 {v0:Sl G182} (kv0:(OkSl (λ_=>True) 1000) v0):Tot (F288 v0) (λr=>ln r<=1000):=by
 refine Xc (λc435=>?_) λc435=>?_
 ·exact tL
 ·refine Xc (λc436=>?_) λc436=>?_
  ·exact tL
  ·have lb437:=(kv0).le
   refine Xb (t_gappC tI) λv3 hv3=>?_
   subst v3
   exact tL
theorem tF289 {v0:Sl G245} (kv0:(OkSl (λ_=>True) 1000) v0):Tot (F289 v0) (λr=>ln r<=1000):=by
 refine Xc (λc438=>?_) λc438=>?_
 ·exact tL
 ·refine Xc (λc439=>?_) λc439=>?_
  ·exact tL
  ·have lb440:=(kv0).le
   refine Xb (t_gappC tI) λv3 hv3=>?_
   subst v3
   exact tL
theorem tF290 {v0:Sl G171} (kv0:(OkSl okG171 1000) v0):Tot (F290 v0) (λr=>(ln r<=1000/\∀ y∈Sl.es r,okG171 y)):=by
 refine Xc (λc441=>?_) λc441=>?_
 ·exact tL
 ·refine Xc (λc442=>?_) λc442=>?_
  ·exact tL
  ·have lb443:=(kv0).le
   refine Xb (t_gappC tI) λv3 hv3=>?_
   subst v3
   have hel:=(kv0).2
   exact tL
theorem tF228 {v0} (kv0:okG147 v0):Tot (F228 v0) (λr=>okG147 r):=by
 refine Xb (tF288 (kv0.fv).mono) λv1 hv1=>?_
 refine Xb (tF289 (kv0.fS).mono) λv3 hv3=>?_
 refine Xb (tF290 (kv0.fq).mono) λv5 hv5=>?_
 exact Xd ⟨OkSl.tr (s:=v1) (n:=1000) tI,OkSl.tr (s:=v3) (n:=1000) tI,OkSl.mk2 (n:=1000) hv5.1 hv5.2⟩
theorem F34_zero {s:G27} {p:G236} (h:F225 s p=some 0):0<=p.fU/\∀ v,F226 s p.fy p.fA p.fw=some v->p.fU<ln v:=by
 unfold F225 at h
 cases h1:(p.fj !=4)with
 |true=>rw[h1]at h;have:=Option.some.inj h;omega
 |false=>
  rw[h1]at h
  cases h2:decide (p.fU<0)with
  |true=>rw[h2]at h;have:=Option.some.inj h;omega
  |false=>
   rw[h2]at h
   refine⟨by have:=of_decide_eq_false h2;omega,λv hv=>?_⟩
   simp only[cond_false]at h
   obtain⟨r,hr,h4⟩:=Xa h
   unfold JF225_4 at h4
   cases hr.symm.trans hv
   cases h3:decide (p.fU>=ln v)with
   |true=>rw[h3]at h4;have:=Option.some.inj h4;omega
   |false=>have:=of_decide_eq_false h3;omega
theorem tF153 {v0 v1} (kv0:okG27 v0):Tot (F153 v0 v1) (λr=>okG147 r.1/\True):=by
 unfold F153
 obtain⟨z,ez,_⟩:=tF225 (v0:=v0) (v1:=v1) kv0
 rw[ez]
 simp only[Option.bind_some]
 refine Xc (λc=>?_) (λc=>?_)
 ·exact Xd ⟨⟨OkSl.nil,OkSl.nil,OkSl.nil⟩,trivial⟩
 ·have hz:z=0:=by simpa using c
  subst hz
  obtain⟨q0,q1⟩:=F34_zero ez
  obtain⟨v5,e5,h5⟩:=tF226 (v0:=v0) (v1:=v1.fy) (v2:=v1.fA) (v3:=v1.fw) kv0
  rw[e5]
  simp only[Option.bind_some]
  refine Xb (Xg (show OkSl okG147 1000 v5 from h5) q0 (q1 _ e5)) λv7 hv7=>?_
  refine Xb (tF228 hv7.1) λv9 hv9=>?_
  exact Xd ⟨⟨hv9.fv,hv9.fS,hv9.fq⟩,trivial⟩
theorem tF229_1 {v0 v1}:Tot (F229_1 v0 v1) (λ_=>True):=by
 exact tL
theorem tJF222_3_2:Tot (JF222_3_2 ) (λ_=>True):=by
 exact tL
theorem tLF222_3_9 {v0:Sl G182} {v1} {v3:Int} (kv0:(OkSl (λ_=>True) 1000) v0) (b0:0<=v3) (b1:v3<=1000):Tot (LF222_3_9 v0 v1 v3) (λr=>match r with|.inl r=>(r=v3+1/\v3<1000)|.inr (.inl r)=>True|.inr (.inr r)=>True):=by
 refine t_bd (λc444=>?_) λc444=>?_
 ·have lc444:=(kv0).le
  refine t_bi (Xg kv0 tI tI) λv11 hv11 ov11=>?_
  refine Xb (tF229_1) λv15 hv15=>?_
  refine Xc (λc445=>?_) λc445=>?_
  ·exact tL
  ·exact tL
 ·have lb446:=(kv0).le
  exact tL
theorem tF222_3 {v0:Sl G182} {v1} (kv0:(OkSl (λ_=>True) 1000) v0):Tot (F222_3 v0 v1) (λ_=>True):=by
 refine Xb (Xe (λv3=>v3) 1000 (by decide) (λv3=>True) (T:=tru) tB tB tZ ?_) ?_
 ·rintro v3 hI h0 h1
  refine(tLF222_3_9 kv0 h0 h1).mono ?_
  exact tM
 ·rintro(v4|⟨⟩) ho5
  ·try dsimp only at ho5 ⊢
   exact tL
  ·try dsimp only at ho5 ⊢
   exact tJF222_3_2
theorem tF146_3 {v0:Sl G182} {v1} (kv0:(OkSl (λ_=>True) 1000) v0):Tot (F146_3 v0 v1) (λ_=>True):=by
 refine Xb (tF222_3 kv0) λv4 hv4=>?_
 exact tL
theorem tJF154_3:Tot (JF154_3 ) (λ_=>True):=by
 exact tL
theorem tJF154_14 {v4:Int} {v13} (b0:0<=v4) (b1:v4<1000):Tot (JF154_14 v4 v13) (λr=>match r with|.inl r=>(r=v4+1/\v4<1000)|.inr (.inl r)=>True|.inr (.inr r)=>True):=by
 refine Xc (λc448=>?_) λc448=>?_
 ·exact tL
 ·exact tL
theorem tLF154_9 {v0 v1} {v4:Int} (kv0:okG147 v0) (kv1:okG147 v1) (b0:0<=v4) (b1:v4<=1000):Tot (LF154_9 v0 v1 v4) (λr=>match r with|.inl r=>(r=v4+1/\v4<1000)|.inr (.inl r)=>True|.inr (.inr r)=>True):=by
 refine t_bd (λc449=>?_) λc449=>?_
 ·have lc449:=(kv0.fv).le
  refine t_bi (Xg (kv0.fv) tI tI) λv11 hv11 ov11=>?_
  refine Xc (λc450=>?_) λc450=>?_
  ·refine t_be (λc451=>?_) λc451=>?_
   ·refine Xb (tF146_3 (kv1.fv).mono) λv20 hv20=>?_
    exact(tJF154_14 tI tI).mono tM
   ·exact(tJF154_14 tI tI).mono tM
  ·exact(tJF154_14 tI tI).mono tM
 ·have lb452:=(kv0.fv).le
  exact tL
theorem tF154 {v0 v1} (kv0:okG147 v0) (kv1:okG147 v1):Tot (F154 v0 v1) (λ_=>True):=by
 refine t_bn (λc453=>?_) λc453=>?_
 ·exact tL
 ·refine Xb (Xe (λv4=>v4) 1000 (by decide) (λv4=>True) (T:=tru) tB tB tZ ?_) ?_
  ·rintro v4 hI h0 h1
   refine(tLF154_9 kv0 kv1 h0 h1).mono ?_
   exact tM
  ·rintro(⟨⟩|⟨⟩) ho5
   ·try dsimp only at ho5 ⊢
    exact tL
   ·try dsimp only at ho5 ⊢
    exact tJF154_3
theorem tF150_1 {v0 v1 v2 v3 v4 v5 v6 v7 v8 v9} {v10:List G159} (kv7:okG147 v7) (kv8:okG27 v8) (kl:v10.length+0<=500000000000):Tot (F150_1 v0 v1 v2 v3 v4 v5 v6 v7 v8 v9 v10) (λ_=>True):=by
 refine Xb (tF151 kv7) λv11 hv11=>?_
 refine Xc (λc455=>?_) λc455=>?_
 ·exact tL
 ·refine Xb (tF152 kv8) λv14 hv14=>?_
  refine Xb (tF153 kv8) λv16 hv16=>?_
  obtain⟨hv16_0,hv16_1⟩:=hv16
  refine Xc (λc456=>?_) λc456=>?_
  ·exact tL
  ·refine Xb (tF154 kv7 hv16_0) λv19 hv19=>?_
   exact tL
theorem tJF140_3_14 {v4:Int} {v13:List G159} (kl:v13.length+0<=500000000000) (b0:0<=v4) (b1:v4<10):Tot (Uz v4 v13) (λr=>match r with|.inl r=>(r.1=v4+1/\v4<10)/\r.2.length<=v13.length+0|.inr r=>r.length<=v13.length+0):=by
 exact tL
theorem tJF140_3_27 {v17:Int} {v26:List G159} (kl:v26.length+0<=500000000000) (b0:0<=v17) (b1:v17<5):Tot (Uy v17 v26) (λr=>match r with|.inl r=>(r.1=v17+1/\v17<5)/\r.2.length<=v26.length+0|.inr r=>r.length<=v26.length+0):=by
 exact tL
theorem tJF140_3_40 {v30:Int} {v39:List G159} (kl:v39.length+0<=500000000000) (b0:0<=v30) (b1:v30<3):Tot (Ux v30 v39) (λr=>match r with|.inl r=>(r.1=v30+1/\v30<3)/\r.2.length<=v39.length+0|.inr r=>r.length<=v39.length+0):=by
 exact tL
theorem tLF140_3_50 {v41 v17 v4 v30 v0 v1} {v43:Int} {v44:List G159} (kv41:okG100 v41) (kv0:okG27 v0) (kl:v44.length+1<=500000000000) (b0:0<=v43) (b1:v43<=1000):Tot (LF140_3_50 v41 v17 v4 v30 v0 v1 v43 v44) (λr=>match r with|.inl r=>(r.1=v43+1/\v43<1000)/\r.2.length<=v44.length+1|.inr r=>r.length<=v44.length+1):=by
 refine t_bd (λc457=>?_) λc457=>?_
 ·have lc457:=(kv41.fg).le
  refine t_bi (Xg (kv41.fg) tI tI) λv52 hv52 ov52=>?_
  refine Xb (tF150_1 hv52 kv0 tI) λv65 hv65=>?_
  refine Xb (Xz kv0 tI) λv72 hv72=>?_
  exact tL
 ·have lb458:=(kv41.fg).le
  exact tL
theorem tLF140_3_37 {v28 v17 v4 v0 v1} {v30:Int} {v31:List G159} (kv28:okG95 v28) (kv0:okG27 v0) (kl:v31.length+1001<=500000000000) (b0:0<=v30) (b1:v30<=3):Tot (LF140_3_37 v28 v17 v4 v0 v1 v30 v31) (λr=>match r with|.inl r=>(r.1=v30+1/\v30<3)/\r.2.length<=v31.length+1001|.inr r=>r.length<=v31.length+1001):=by
 refine t_bd (λc459=>?_) λc459=>?_
 ·have lc459:=(kv28.ff).le
  refine t_bi (Xg (kv28.ff) tI tI) λv41 hv41 ov41=>?_
  refine Xb (Xe (λ(v43,v44)=>v43) 1000 (by decide) (λ(v43,v44)=>(v44.length:Int)<=v31.length+0+1*v43) (T:=λr=>r.length<=v31.length+1001) tB tB tZ ?_) ?_
  ·rintro⟨v43,v44⟩ hI h0 h1
   try dsimp only at hI h0 h1 ⊢
   refine(tLF140_3_50 hv41 kv0 tI h0 h1).mono ?_
   exact tM
  ·rintro v45 ho46
   try dsimp only at ho46 ⊢
   exact(tJF140_3_40 tI tI tI).mono tM
 ·have lb461:=(kv28.ff).le
  exact tL
theorem tLF140_3_24 {v15 v4 v0 v1} {v17:Int} {v18:List G159} (kv15:okG75 v15) (kv0:okG27 v0) (kl:v18.length+4004<=500000000000) (b0:0<=v17) (b1:v17<=5):Tot (LF140_3_24 v15 v4 v0 v1 v17 v18) (λr=>match r with|.inl r=>(r.1=v17+1/\v17<5)/\r.2.length<=v18.length+4004|.inr r=>r.length<=v18.length+4004):=by
 refine t_bd (λc462=>?_) λc462=>?_
 ·have lc462:=(kv15.fe).le
  refine t_bi (Xg (kv15.fe) tI tI) λv28 hv28 ov28=>?_
  refine Xb (Xe (λ(v30,v31)=>v30) 3 (by decide) (λ(v30,v31)=>(v31.length:Int)<=v18.length+0+1001*v30) (T:=λr=>r.length<=v18.length+4004) tB tB tZ ?_) ?_
  ·rintro⟨v30,v31⟩ hI h0 h1
   try dsimp only at hI h0 h1 ⊢
   refine(tLF140_3_37 hv28 kv0 tI h0 h1).mono ?_
   exact tM
  ·rintro v32 ho33
   try dsimp only at ho33 ⊢
   exact(tJF140_3_27 tI tI tI).mono tM
 ·have lb464:=(kv15.fe).le
  exact tL
theorem tLF140_3_11 {v0 v1} {v4:Int} {v5:List G159} (kv0:okG27 v0) (kl:v5.length+24024<=500000000000) (b0:0<=v4) (b1:v4<=10):Tot (LF140_3_11 v0 v1 v4 v5) (λr=>match r with|.inl r=>(r.1=v4+1/\v4<10)/\r.2.length<=v5.length+24024|.inr r=>r.length<=v5.length+24024):=by
 refine t_bd (λc465=>?_) λc465=>?_
 ·have lc465:=(kv0.fc).le
  refine t_bi (Xg (kv0.fc) tI tI) λv15 hv15 ov15=>?_
  refine Xb (Xe (λ(v17,v18)=>v17) 5 (by decide) (λ(v17,v18)=>(v18.length:Int)<=v5.length+0+4004*v17) (T:=λr=>r.length<=v5.length+24024) tB tB tZ ?_) ?_
  ·rintro⟨v17,v18⟩ hI h0 h1
   try dsimp only at hI h0 h1 ⊢
   refine(tLF140_3_24 hv15 kv0 tI h0 h1).mono ?_
   exact tM
  ·rintro v19 ho20
   try dsimp only at ho20 ⊢
   exact(tJF140_3_14 tI tI tI).mono tM
 ·have lb467:=(kv0.fc).le
  exact tL
theorem tF140_3 {v0 v1} {v2:List G159} (kv0:okG27 v0) (kl:v2.length+264264<=500000000000):Tot (F140_3 v0 v1 v2) (λr=>r.length<=v2.length+264264):=by
 refine Xb (Xe (λ(v4,v5)=>v4) 10 (by decide) (λ(v4,v5)=>(v5.length:Int)<=v2.length+0+24024*v4) (T:=λr=>r.length<=v2.length+264264) tB tB tZ ?_) ?_
 ·rintro⟨v4,v5⟩ hI h0 h1
  try dsimp only at hI h0 h1 ⊢
  refine(tLF140_3_11 kv0 tI h0 h1).mono ?_
  exact tM
 ·rintro v6 ho7
  try dsimp only at ho7 ⊢
  exact tL
theorem tF69_1 {v0 v1} {v2:List G159} (kv0:okG27 v0) (kl:v2.length+264264<=500000000000):Tot (F69_1 v0 v1 v2) (λr=>r.length<=v2.length+264264):=by
 refine Xb (tF140_3 kv0 tI) λv7 hv7=>?_
 exact tL
theorem tF230 {v0} {v1:Int} (kv0:okG147 v0) (q0:0<=v1):Tot (F230 v0 v1) (λ_=>True):=by
 refine t_bd (λc469=>?_) λc469=>?_
 ·have lb470:=(kv0.fq).le
  exact tL
 ·have lb471:=(kv0.fq).le
  refine t_bi (Xg (kv0.fq) tI tI) λv3 hv3 ov3=>?_
  exact tL
theorem tJF155_1_16 {v8 v9 v10 v11 v12 v13 v14 v15} (kv8:GM.ok v8) (kv9:(OkB) v9):Tot (JF155_1_16 v8 v9 v10 v11 v12 v13 v14 v15) (λr=>GM.ok r):=by
 refine t_be (λc473=>?_) λc473=>?_
 ·exact tL
 ·exact tL
theorem tJF155_1_49 {v18:Int} {v41 v42 v43 v44 v45 v46 v47 v48} (kv41:GM.ok v41) (kv42:(OkB) v42) (b0:0<=v18) (b1:v18<10):Tot (JF155_1_49 v18 v41 v42 v43 v44 v45 v46 v47 v48) (λr=>match r with|.inl r=>(r.1=v18+1/\v18<10)/\GM.ok r.2.1/\(OkB) r.2.2.1/\True/\True/\True/\True/\True/\True|.inr r=>GM.ok r.1/\(OkB) r.2.1/\True/\True/\True/\True/\True/\True):=by
 exact tL
theorem tJF155_1_90 {v59:Int} {v82 v83 v84 v85 v86 v87 v88 v89} (kv82:GM.ok v82) (kv83:(OkB) v83) (b0:0<=v59) (b1:v59<1000):Tot (JF155_1_90 v59 v82 v83 v84 v85 v86 v87 v88 v89) (λr=>match r with|.inl r=>(r.1=v59+1/\v59<1000)/\GM.ok r.2.1/\(OkB) r.2.2.1/\True/\True/\True/\True/\True/\True|.inr r=>GM.ok r.1/\(OkB) r.2.1/\True/\True/\True/\True/\True/\True):=by
 exact tL
theorem tJF155_1_101 {v59:Int} {v96 v0 v18 v1 v100} (kv96:okG171 v96) (kv100:GM.ok v100) (b0:0<=v59) (b1:v59<1000):Tot (Qk v59 v96 v0 v18 v1 v100) (λr=>match r with|.inl r=>(r.1=v59+1/\v59<1000)/\GM.ok r.2.1/\(OkB) r.2.2.1/\True/\True/\True/\True/\True/\True|.inr r=>GM.ok r.1/\(OkB) r.2.1/\True/\True/\True/\True/\True/\True):=by
 exact(tJF155_1_90 (by first|assumption|exact Ye (by assumption)|exact gm0) kv96.fH tI tI).mono tM
theorem tJF155_1_103 {v59:Int} {v96 v0 v18 v1 v98 v102} (kv96:okG171 v96) (kv98:GM.ok v98) (b0:0<=v59) (b1:v59<1000):Tot (Vo v59 v96 v0 v18 v1 v98 v102) (λr=>match r with|.inl r=>(r.1=v59+1/\v59<1000)/\GM.ok r.2.1/\(OkB) r.2.2.1/\True/\True/\True/\True/\True/\True|.inr r=>GM.ok r.1/\(OkB) r.2.1/\True/\True/\True/\True/\True/\True):=by
 refine Xc (λc474=>?_) λc474=>?_
 ·exact(tJF155_1_101 kv96 (by first|assumption|exact Ye (by assumption)|exact gm0) tI tI).mono tM
 ·exact(tJF155_1_101 kv96 (by first|assumption|exact Ye (by assumption)|exact gm0) tI tI).mono tM
theorem tJF155_1_99 {v96} {v59:Int} {v0 v18 v1 v62 v98} (kv96:okG171 v96) (kv98:GM.ok v98) (b0:0<=v59) (b1:v59<1000):Tot (JF155_1_99 v96 v59 v0 v18 v1 v62 v98) (λr=>match r with|.inl r=>(r.1=v59+1/\v59<1000)/\GM.ok r.2.1/\(OkB) r.2.2.1/\True/\True/\True/\True/\True/\True|.inr r=>GM.ok r.1/\(OkB) r.2.1/\True/\True/\True/\True/\True/\True):=by
 refine t_be (λc475=>?_) λc475=>?_
 ·refine t_be (λc476=>?_) λc476=>?_
  ·exact(tJF155_1_103 kv96 (by first|assumption|exact Ye (by assumption)|exact gm0) tI tI).mono tM
  ·exact(tJF155_1_103 kv96 (by first|assumption|exact Ye (by assumption)|exact gm0) tI tI).mono tM
 ·exact(tJF155_1_103 kv96 (by first|assumption|exact Ye (by assumption)|exact gm0) tI tI).mono tM
theorem tJF155_1_108 {v96} {v59:Int} {v0 v18 v1 v62 v60 v63 v64 v65 v66 v67 v107} (kv96:okG171 v96) (kv60:GM.ok v60) (b0:0<=v59) (b1:v59<1000):Tot (Qj v96 v59 v0 v18 v1 v62 v60 v63 v64 v65 v66 v67 v107) (λr=>match r with|.inl r=>(r.1=v59+1/\v59<1000)/\GM.ok r.2.1/\(OkB) r.2.2.1/\True/\True/\True/\True/\True/\True|.inr r=>GM.ok r.1/\(OkB) r.2.1/\True/\True/\True/\True/\True/\True):=by
 refine Xc (λc477=>?_) λc477=>?_
 ·exact(tJF155_1_99 kv96 (by first|assumption|exact Ye (by assumption)|exact gm0) tI tI).mono tM
 ·exact(tJF155_1_99 kv96 (by first|assumption|exact Ye (by assumption)|exact gm0) tI tI).mono tM
theorem F158_no {v0:G147} {v1:Int} (h:F230 v0 v1=some false):v1<ln v0.fq:=by
 unfold F230 at h
 cases hc:decide (v1>=(ln v0.fq))with
 |true=>rw[hc]at h;cases h
 |false=>have:=of_decide_eq_false hc;omega
theorem tLF155_1_80 {v57} {v2:Int} {v0 v18 v1} {v59:Int} {v60 v61 v62 v63 v64 v65 v66 v67} (kv57:okG100 v57) (kv60:GM.ok v60) (kv61:(OkB) v61) (q0:0<=v2) (b0:0<=v59) (b1:v59<=1000):Tot (LF155_1_80 v57 v2 v0 v18 v1 v59 v60 v61 v62 v63 v64 v65 v66 v67) (λr=>match r with|.inl r=>(r.1=v59+1/\v59<1000)/\GM.ok r.2.1/\(OkB) r.2.2.1/\True/\True/\True/\True/\True/\True|.inr r=>GM.ok r.1/\(OkB) r.2.1/\True/\True/\True/\True/\True/\True):=by
 refine t_bd (λc=>?_) (λc=>?_)
 ·have lc:=(kv57.fg).le
  refine t_bi (Xg (kv57.fg) tI tI) λv91 hv91 ov91=>?_
  obtain⟨b,eb,_⟩:=tF230 (v0:=v91) (v1:=v2) hv91 q0
  rw[eb]
  cases b with
  |true=>
   simp only[Option.bind_some,cond_true]
   exact(tJF155_1_90 kv60 kv61 tI tI).mono tM
  |false=>
   simp only[Option.bind_some,cond_false]
   refine t_bi (Xg (hv91.fq) q0 (F158_no eb)) λv96 hv96 ov96=>?_
   refine Xc (λc2=>?_) (λc2=>?_)
   ·exact(tJF155_1_108 hv96 kv60 tI tI).mono tM
   ·exact(tJF155_1_108 hv96 kv60 tI tI).mono tM
 ·exact tL
theorem tJF155_1_53 {v18:Int} {v19 v20 v21 v22 v23 v24 v25 v26} {v50:G75} {v0:Int} {v1:Int} {v2:Int} {v52:Bool} (kv19:GM.ok v19) (kv20:(OkB) v20) (kv50:okG75 v50) (q0:v52=false->(0<=v0/\v0<ln v50.fe)) (q1:v52=false->(∀ v55,gx (Sl.es v50.fe) v0=some v55->0<=v1/\v1<ln v55.ff)) (q2:v52=false->(0<=v2)) (b0:0<=v18) (b1:v18<10):Tot (JF155_1_53 v18 v19 v20 v21 v22 v23 v24 v25 v26 v50 v0 v1 v2 v52) (λr=>match r with|.inl r=>(r.1=v18+1/\v18<10)/\GM.ok r.2.1/\(OkB) r.2.2.1/\True/\True/\True/\True/\True/\True|.inr r=>GM.ok r.1/\(OkB) r.2.1/\True/\True/\True/\True/\True/\True):=by
 refine Xc (λc478=>?_) λc478=>?_
 ·exact(tJF155_1_49 (by first|assumption|exact Ye (by assumption)|exact gm0) kv20 tI tI).mono tM
 ·have qq479:=q0 c478
  refine t_bi (Xg (kv50.fe) tI tI) λv55 hv55 ov55=>?_
  have qq480:=q1 c478 v55 ov55
  refine t_bi (Xg (hv55.ff) tI tI) λv57 hv57 ov57=>?_
  have qq481:=q2 c478
  refine Xb (Xe (λ(v59,v60,v61,v62,v63,v64,v65,v66,v67)=>v59) 1000 (by decide) (λ(v59,v60,v61,v62,v63,v64,v65,v66,v67)=>GM.ok v60/\OkB v61) (T:=λr=>GM.ok r.1/\OkB r.2.1/\True/\True/\True/\True/\True/\True) tB tB tZ ?_) ?_
  ·rintro⟨v59,v60,v61,v62,v63,v64,v65,v66,v67⟩ hI h0 h1
   refine(tLF155_1_80 hv57 (by first|exact hI|exact hI.1|exact hI.2|exact hI.2.1) (by first|exact hI|exact hI.1|exact hI.2|exact hI.2.1) tW h0 h1).mono ?_
   exact tM
  ·rintro⟨v68,v69,v70,v71,v72,v73,v74,v75⟩ ho76
   obtain⟨ho76_0,ho76_1,ho76_2,ho76_3,ho76_4,ho76_5,ho76_6,ho76_7⟩:=ho76
   exact(tJF155_1_49 (by first|assumption|exact Ye (by assumption)|exact gm0) (by first|assumption|exact hbad) tI tI).mono tM
theorem tLF155_1_39 {v3} {v0:Int} {v1:Int} {v2:Int} {v18:Int} {v19 v20 v21 v22 v23 v24 v25 v26} (kv3:okG27 v3) (kv19:GM.ok v19) (kv20:(OkB) v20) (q0:0<=v0) (q1:0<=v1) (q2:0<=v2) (b0:0<=v18) (b1:v18<=10):Tot (LF155_1_39 v3 v0 v1 v2 v18 v19 v20 v21 v22 v23 v24 v25 v26) (λr=>match r with|.inl r=>(r.1=v18+1/\v18<10)/\GM.ok r.2.1/\(OkB) r.2.2.1/\True/\True/\True/\True/\True/\True|.inr r=>GM.ok r.1/\(OkB) r.2.1/\True/\True/\True/\True/\True/\True):=by
 refine t_bd (λc483=>?_) λc483=>?_
 ·have lc483:=(kv3.fc).le
  refine t_bi (Xg (kv3.fc) tI tI) λv50 hv50 ov50=>?_
  refine t_bd (λc484=>?_) λc484=>?_
  ·have lb485:=(hv50.fe).le
   exact(tJF155_1_53 (by first|assumption|exact Ye (by assumption)|exact gm0) kv20 hv50 (by intros;simp_all only [Bool.false_eq_true,Bool.true_eq_false,reduceCtorEq]) (by intros;simp_all only [Bool.false_eq_true,Bool.true_eq_false,reduceCtorEq]) (by intros;simp_all only [Bool.false_eq_true,Bool.true_eq_false,reduceCtorEq]) tI tI).mono tM
  ·have lb486:=(hv50.fe).le
   refine t_bi (Xg (hv50.fe) tI tI) λv112 hv112 ov112=>?_
   have lb489:=(hv112.ff).le
   exact(tJF155_1_53 (by first|assumption|exact Ye (by assumption)|exact gm0) kv20 hv50 (by intro g488;replace g488:=of_decide_eq_false g488;exact tI) (by intro g491;replace g491:=of_decide_eq_false g491;exact(oq ov112 tI)) (by intro g494;replace g494:=of_decide_eq_false g494;exact tW) tI tI).mono tM
 ·have lb496:=(kv3.fc).le
  exact tL
theorem tF155_1 {v0:Int} {v1:Int} {v2:Int} {v3 v4} {v5:List G159} {v6} (kv3:okG27 v3) (kv6:GM.ok v6) (kl:v5.length+0<=500000000000) (q0:0<=v0) (q1:0<=v1) (q2:0<=v2):Tot (F155_1 v0 v1 v2 v3 v4 v5 v6) (λr=>GM.ok r):=by
 refine Xb (Xe (λ(v18,v19,v20,v21,v22,v23,v24,v25,v26)=>v18) 10 (by decide) (λ(v18,v19,v20,v21,v22,v23,v24,v25,v26)=>GM.ok v19/\OkB v20) (T:=λr=>GM.ok r.1/\OkB r.2.1/\True/\True/\True/\True/\True/\True) tB tB tZ ?_) ?_
 ·rintro⟨v18,v19,v20,v21,v22,v23,v24,v25,v26⟩ hI h0 h1
  refine(tLF155_1_39 kv3 (by first|exact hI|exact hI.1|exact hI.2|exact hI.2.1) (by first|exact hI|exact hI.1|exact hI.2|exact hI.2.1) tW tW tW h0 h1).mono ?_
  exact tM
 ·rintro⟨v27,v28,v29,v30,v31,v32,v33,v34⟩ ho35
  obtain⟨ho35_0,ho35_1,ho35_2,ho35_3,ho35_4,ho35_5,ho35_6,ho35_7⟩:=ho35
  exact(tJF155_1_16 (by first|assumption|exact Ye (by assumption)|exact gm0) (by first|assumption|exact hbad)).mono tM
theorem tF156_1 {v0 v1 v2 v3 v4 v5 v6 v7 v8} (kv7:okG147 v7) (kv8:GM.ok v8):Tot (F156_1 v0 v1 v2 v3 v4 v5 v6 v7 v8) (λ_=>True):=by
 refine Xb (t_gmGet (by assumption)) λv9 hv9=>?_
 exact tL
theorem tJF140_4_15 {v5:Int} {v14:List G159} (kl:v14.length+0<=500000000000) (b0:0<=v5) (b1:v5<10):Tot (Uw v5 v14) (λr=>match r with|.inl r=>(r.1=v5+1/\v5<10)/\r.2.length<=v14.length+0|.inr r=>r.length<=v14.length+0):=by
 exact tL
theorem tJF140_4_28 {v18:Int} {v27:List G159} (kl:v27.length+0<=500000000000) (b0:0<=v18) (b1:v18<5):Tot (Uv v18 v27) (λr=>match r with|.inl r=>(r.1=v18+1/\v18<5)/\r.2.length<=v27.length+0|.inr r=>r.length<=v27.length+0):=by
 exact tL
theorem tJF140_4_41 {v31:Int} {v40:List G159} (kl:v40.length+0<=500000000000) (b0:0<=v31) (b1:v31<3):Tot (Uu v31 v40) (λr=>match r with|.inl r=>(r.1=v31+1/\v31<3)/\r.2.length<=v40.length+0|.inr r=>r.length<=v40.length+0):=by
 exact tL
theorem tLF140_4_51 {v42 v18 v5 v31 v3 v0 v1} {v44:Int} {v45:List G159} (kv42:okG100 v42) (kv3:GM.ok v3) (kv0:okG27 v0) (kl:v45.length+1<=500000000000) (b0:0<=v44) (b1:v44<=1000):Tot (LF140_4_51 v42 v18 v5 v31 v3 v0 v1 v44 v45) (λr=>match r with|.inl r=>(r.1=v44+1/\v44<1000)/\r.2.length<=v45.length+1|.inr r=>r.length<=v45.length+1):=by
 refine t_bd (λc501=>?_) λc501=>?_
 ·have lc501:=(kv42.fg).le
  refine t_bi (Xg (kv42.fg) tI tI) λv53 hv53 ov53=>?_
  refine Xb (tF156_1 hv53 (by first|assumption|exact Ye (by assumption)|exact gm0)) λv64 hv64=>?_
  refine Xb (Xz kv0 tI) λv71 hv71=>?_
  exact tL
 ·have lb502:=(kv42.fg).le
  exact tL
theorem tLF140_4_38 {v29 v18 v5 v3 v0 v1} {v31:Int} {v32:List G159} (kv29:okG95 v29) (kv3:GM.ok v3) (kv0:okG27 v0) (kl:v32.length+1001<=500000000000) (b0:0<=v31) (b1:v31<=3):Tot (LF140_4_38 v29 v18 v5 v3 v0 v1 v31 v32) (λr=>match r with|.inl r=>(r.1=v31+1/\v31<3)/\r.2.length<=v32.length+1001|.inr r=>r.length<=v32.length+1001):=by
 refine t_bd (λc503=>?_) λc503=>?_
 ·have lc503:=(kv29.ff).le
  refine t_bi (Xg (kv29.ff) tI tI) λv42 hv42 ov42=>?_
  refine Xb (Xe (λ(v44,v45)=>v44) 1000 (by decide) (λ(v44,v45)=>(v45.length:Int)<=v32.length+0+1*v44) (T:=λr=>r.length<=v32.length+1001) tB tB tZ ?_) ?_
  ·rintro⟨v44,v45⟩ hI h0 h1
   try dsimp only at hI h0 h1 ⊢
   refine(tLF140_4_51 hv42 (by assumption) kv0 tI h0 h1).mono ?_
   exact tM
  ·rintro v46 ho47
   try dsimp only at ho47 ⊢
   exact(tJF140_4_41 tI tI tI).mono tM
 ·have lb505:=(kv29.ff).le
  exact tL
theorem tLF140_4_25 {v16 v5 v3 v0 v1} {v18:Int} {v19:List G159} (kv16:okG75 v16) (kv3:GM.ok v3) (kv0:okG27 v0) (kl:v19.length+4004<=500000000000) (b0:0<=v18) (b1:v18<=5):Tot (LF140_4_25 v16 v5 v3 v0 v1 v18 v19) (λr=>match r with|.inl r=>(r.1=v18+1/\v18<5)/\r.2.length<=v19.length+4004|.inr r=>r.length<=v19.length+4004):=by
 refine t_bd (λc506=>?_) λc506=>?_
 ·have lc506:=(kv16.fe).le
  refine t_bi (Xg (kv16.fe) tI tI) λv29 hv29 ov29=>?_
  refine Xb (Xe (λ(v31,v32)=>v31) 3 (by decide) (λ(v31,v32)=>(v32.length:Int)<=v19.length+0+1001*v31) (T:=λr=>r.length<=v19.length+4004) tB tB tZ ?_) ?_
  ·rintro⟨v31,v32⟩ hI h0 h1
   try dsimp only at hI h0 h1 ⊢
   refine(tLF140_4_38 hv29 (by assumption) kv0 tI h0 h1).mono ?_
   exact tM
  ·rintro v33 ho34
   try dsimp only at ho34 ⊢
   exact(tJF140_4_28 tI tI tI).mono tM
 ·have lb508:=(kv16.fe).le
  exact tL
theorem tLF140_4_12 {v0 v3 v1} {v5:Int} {v6:List G159} (kv0:okG27 v0) (kv3:GM.ok v3) (kl:v6.length+24024<=500000000000) (b0:0<=v5) (b1:v5<=10):Tot (LF140_4_12 v0 v3 v1 v5 v6) (λr=>match r with|.inl r=>(r.1=v5+1/\v5<10)/\r.2.length<=v6.length+24024|.inr r=>r.length<=v6.length+24024):=by
 refine t_bd (λc509=>?_) λc509=>?_
 ·have lc509:=(kv0.fc).le
  refine t_bi (Xg (kv0.fc) tI tI) λv16 hv16 ov16=>?_
  refine Xb (Xe (λ(v18,v19)=>v18) 5 (by decide) (λ(v18,v19)=>(v19.length:Int)<=v6.length+0+4004*v18) (T:=λr=>r.length<=v6.length+24024) tB tB tZ ?_) ?_
  ·rintro⟨v18,v19⟩ hI h0 h1
   try dsimp only at hI h0 h1 ⊢
   refine(tLF140_4_25 hv16 (by assumption) kv0 tI h0 h1).mono ?_
   exact tM
  ·rintro v20 ho21
   try dsimp only at ho21 ⊢
   exact(tJF140_4_15 tI tI tI).mono tM
 ·have lb511:=(kv0.fc).le
  exact tL
theorem tF140_4 {v0 v1} {v2:List G159} {v3} (kv0:okG27 v0) (kv3:GM.ok v3) (kl:v2.length+264264<=500000000000):Tot (F140_4 v0 v1 v2 v3) (λr=>r.length<=v2.length+264264):=by
 refine Xb (Xe (λ(v5,v6)=>v5) 10 (by decide) (λ(v5,v6)=>(v6.length:Int)<=v2.length+0+24024*v5) (T:=λr=>r.length<=v2.length+264264) tB tB tZ ?_) ?_
 ·rintro⟨v5,v6⟩ hI h0 h1
  try dsimp only at hI h0 h1 ⊢
  refine(tLF140_4_12 kv0 (by assumption) tI h0 h1).mono ?_
  exact tM
 ·rintro v7 ho8
  try dsimp only at ho8 ⊢
  exact tL
theorem tJF70_1_7 {v0 v1} {v2:List G159} {v6} (kv0:okG27 v0) (kv6:GM.ok v6) (kl:v2.length+264264<=500000000000):Tot (JF70_1_7 v0 v1 v2 v6) (λr=>r.length<=v2.length+264264):=by
 refine Xb (tF140_4 kv0 (by first|assumption|exact Ye (by assumption)|exact gm0) tI) λv12 hv12=>?_
 exact tL
theorem tJF70_1_24 {v14:Int} {v23} (kv23:GM.ok v23) (b0:0<=v14) (b1:v14<1000):Tot (JF70_1_24 v14 v23) (λr=>match r with|.inl r=>(r.1=v14+1/\v14<1000)/\GM.ok r.2|.inr r=>GM.ok r):=by
 exact tL
theorem tJF70_1_35 {v25:Int} {v34} (kv34:GM.ok v34) (b0:0<=v25) (b1:v25<2):Tot (JF70_1_35 v25 v34) (λr=>match r with|.inl r=>(r.1=v25+1/\v25<2)/\GM.ok r.2|.inr r=>GM.ok r):=by
 exact tL
theorem tLF70_1_43 {v14:Int} {v25:Int} {v0 v1} {v2:List G159} {v36:Int} {v37} (kv0:okG27 v0) (kv37:GM.ok v37) (kl:v2.length+0<=500000000000) (q0:0<=v14) (q1:0<=v25) (b0:0<=v36) (b1:v36<=4):Tot (LF70_1_43 v14 v25 v0 v1 v2 v36 v37) (λr=>match r with|.inl r=>(r.1=v36+1/\v36<4)/\GM.ok r.2|.inr r=>GM.ok r):=by
 refine t_bd (λc513=>?_) λc513=>?_
 ·refine Xb (tF155_1 kv0 (by first|assumption|exact Ye (by assumption)|exact gm0) tI tW tW tW) λv52 hv52=>?_
  exact tL
 ·exact tL
theorem tLF70_1_32 {v14:Int} {v0 v1} {v2:List G159} {v25:Int} {v26} (kv0:okG27 v0) (kv26:GM.ok v26) (kl:v2.length+0<=500000000000) (q0:0<=v14) (b0:0<=v25) (b1:v25<=2):Tot (LF70_1_32 v14 v0 v1 v2 v25 v26) (λr=>match r with|.inl r=>(r.1=v25+1/\v25<2)/\GM.ok r.2|.inr r=>GM.ok r):=by
 refine t_bd (λc516=>?_) λc516=>?_
 ·refine Xb (Xe (λ(v36,v37)=>v36) 4 (by decide) (λ(v36,v37)=>GM.ok v37) (T:=λr=>GM.ok r) tB tB tZ ?_) ?_
  ·rintro⟨v36,v37⟩ hI h0 h1
   refine(tLF70_1_43 kv0 (by first|exact hI|exact hI.1|exact hI.2|exact hI.2.1) tI tW tW h0 h1).mono ?_
   exact tM
  ·rintro v38 ho39
   exact(tJF70_1_35 (by first|assumption|exact Ye (by assumption)|exact gm0) tI tI).mono tM
 ·exact tL
theorem tLF70_1_21 {v4:Int} {v0 v1} {v2:List G159} {v14:Int} {v15} (kv0:okG27 v0) (kv15:GM.ok v15) (kl:v2.length+0<=500000000000) (q0:v4<=1000) (b0:0<=v14) (b1:v14<=1000):Tot (LF70_1_21 v4 v0 v1 v2 v14 v15) (λr=>match r with|.inl r=>(r.1=v14+1/\v14<1000)/\GM.ok r.2|.inr r=>GM.ok r):=by
 refine t_bd (λc519=>?_) λc519=>?_
 ·refine Xb (Xe (λ(v25,v26)=>v25) 2 (by decide) (λ(v25,v26)=>GM.ok v26) (T:=λr=>GM.ok r) tB tB tZ ?_) ?_
  ·rintro⟨v25,v26⟩ hI h0 h1
   refine(tLF70_1_32 kv0 (by first|exact hI|exact hI.1|exact hI.2|exact hI.2.1) tI tW h0 h1).mono ?_
   exact tM
  ·rintro v27 ho28
   exact(tJF70_1_24 (by first|assumption|exact Ye (by assumption)|exact gm0) tI tI).mono tM
 ·exact tL
theorem tF70_1 {v0 v1} {v2:List G159} (kv0:okG27 v0) (kl:v2.length+264264<=500000000000):Tot (F70_1 v0 v1 v2) (λr=>r.length<=v2.length+264264):=by
 refine Xb (tF130w kv0) λv4 h4=>?_
 refine Xb (Xe (λ(v14,v15)=>v14) 1000 (by decide) (λ(v14,v15)=>GM.ok v15) (T:=λr=>GM.ok r) (by decide) (by decide) gm0 ?_) ?_
 ·rintro⟨v14,v15⟩ hI h0 h1
  dsimp only at hI h0 h1 ⊢
  refine(tLF70_1_21 kv0 hI (by omega) (by omega) h0 h1).mono ?_
  rintro(⟨a,b⟩|r) h
  ·exact⟨h.2,h.1⟩
  ·exact h
 ·rintro v16 h
  exact tJF70_1_7 kv0 h kl
theorem tR291_0_1 {v0 v1 v2 v3 v4 v5 v6 v7 v8 v9 v10 v11 v12 v13 v14 v15 v16 v17} (kv8:okG27 v8):Tot (Vn v0 v1 v2 v3 v4 v5 v6 v7 v8 v9 v10 v11 v12 v13 v14 v15 v16 v17) (λ_=>True):=by
 refine Xc (λc521=>?_) λc521=>?_
 ·exact tL
 ·exact tL
theorem tLF276_2_66 {v0 v1} {v37:Int} {v38 v39 v40 v41 v42 v43 v44 v45} (kv0:okG27 v0) (b0:0<=v37) (b1:v37<=10):Tot (LF276_2_66 v0 v1 v37 v38 v39 v40 v41 v42 v43 v44 v45) (λr=>match r with|.inl r=>(r.1=v37+1/\v37<10)/\True/\True/\True/\True/\True/\True/\True/\True|.inr (.inl r)=>True/\True/\True/\True/\True/\True/\True/\True|.inr (.inr r)=>True/\True/\True/\True/\True/\True/\True/\True):=by
 refine t_bd (λc523=>?_) λc523=>?_
 ·have lc523:=(kv0.fi).le
  refine t_bi (Xg (kv0.fi) tI tI) λv68 hv68 ov68=>?_
  refine Xb (tR291_0_1 kv0) λv88 hv88=>?_
  refine Xc (λc524=>?_) λc524=>?_
  ·exact tL
  ·exact tL
 ·have lb525:=(kv0.fi).le
  exact tL
theorem tJF276_2_36 {v0 v1 v28 v29 v30 v31 v32 v33 v34 v35} (kv0:okG27 v0):Tot (JF276_2_36 v0 v1 v28 v29 v30 v31 v32 v33 v34 v35) (λ_=>True):=by
 refine Xb (Xe (λ(v37,v38,v39,v40,v41,v42,v43,v44,v45)=>v37) 10 (by decide) (λ(v37,v38,v39,v40,v41,v42,v43,v44,v45)=>True) (T:=tru) tB tB tZ ?_) ?_
 ·rintro⟨v37,v38,v39,v40,v41,v42,v43,v44,v45⟩ hI h0 h1
  refine(tLF276_2_66 kv0 h0 h1).mono ?_
  exact tM
 ·rintro(⟨v46,v47,v48,v49,v50,v51,v52,v53⟩|⟨v54,v55,v56,v57,v58,v59,v60,v61⟩) ho62
  ·try dsimp only at ho62 ⊢
   exact tL
  ·try dsimp only at ho62 ⊢
   exact tL
theorem tJF276_2_130 {v91:Int} {v122 v123 v124 v125 v126 v127 v128 v129} (b0:0<=v91) (b1:v91<10):Tot (JF276_2_130 v91 v122 v123 v124 v125 v126 v127 v128 v129) (λr=>match r with|.inl r=>(r.1=v91+1/\v91<10)/\True/\True/\True/\True/\True/\True/\True/\True|.inr (.inl r)=>True/\True/\True/\True/\True/\True/\True/\True|.inr (.inr r)=>True/\True/\True/\True/\True/\True/\True/\True):=by
 exact tL
theorem tJF276_2_195 {v156:Int} {v187 v188 v189 v190 v191 v192 v193 v194} (b0:0<=v156) (b1:v156<5):Tot (JF276_2_195 v156 v187 v188 v189 v190 v191 v192 v193 v194) (λr=>match r with|.inl r=>(r.1=v156+1/\v156<5)/\True/\True/\True/\True/\True/\True/\True/\True|.inr (.inl r)=>True/\True/\True/\True/\True/\True/\True/\True|.inr (.inr r)=>True/\True/\True/\True/\True/\True/\True/\True):=by
 exact tL
theorem tJF276_2_239 {v200:Int} {v231 v232 v233 v234 v235 v236 v237 v238} (b0:0<=v200) (b1:v200<3):Tot (JF276_2_239 v200 v231 v232 v233 v234 v235 v236 v237 v238) (λr=>match r with|.inl r=>(r.1=v200+1/\v200<3)/\True/\True/\True/\True/\True/\True/\True/\True|.inr (.inl r)=>True/\True/\True/\True/\True/\True/\True/\True|.inr (.inr r)=>True/\True/\True/\True/\True/\True/\True/\True):=by
 exact tL
theorem tLF276_2_275 {v244:G100} {v0:G27} {v91:Int} {v156:Int} {v200:Int} {v1} {v246:Int} {v247 v248 v249 v250 v251 v252 v253 v254} (kv244:okG100 v244) (kv0:okG27 v0) (q0:0<=v91/\v91<ln v0.fc) (q1:∀ v277,gx (Sl.es v0.fc) v91=some v277->0<=v156/\v156<ln v277.fe) (q2:∀ v277,gx (Sl.es v0.fc) v91=some v277->∀ v279,gx (Sl.es v277.fe) v156=some v279->0<=v200/\v200<ln v279.ff) (q3:∀ v277,gx (Sl.es v0.fc) v91=some v277->∀ v279,gx (Sl.es v277.fe) v156=some v279->∀ v281,gx (Sl.es v279.ff) v200=some v281->v281=v244) (b0:0<=v246) (b1:v246<=1000):Tot (LF276_2_275 v244 v0 v91 v156 v200 v1 v246 v247 v248 v249 v250 v251 v252 v253 v254) (λr=>match r with|.inl r=>(r.1=v246+1/\v246<1000)/\True/\True/\True/\True/\True/\True/\True/\True|.inr (.inl r)=>True/\True/\True/\True/\True/\True/\True/\True|.inr (.inr r)=>True/\True/\True/\True/\True/\True/\True/\True):=by
 refine t_bd (λc527=>?_) λc527=>?_
 ·have lc527:=(kv244.fg).le
  refine t_bi (Xg (kv0.fc) tI tI) λv277 hv277 ov277=>?_
  have qq529:=q1 v277 ov277
  refine t_bi (Xg (hv277.fe) tI tI) λv279 hv279 ov279=>?_
  have qq530:=q2 v277 ov277 v279 ov279
  refine t_bi (Xg (hv279.ff) tI tI) λv281 hv281 ov281=>?_
  have qq531:ln v281.fg=ln v244.fg:=congrArg (λz=>ln z.fg) (q3 v277 ov277 v279 ov279 v281 ov281)
  refine t_bi (Xg (hv281.fg) tI tI) λv283 hv283 ov283=>?_
  refine Xb (tR291_0_1 kv0) λv303 hv303=>?_
  refine Xc (λc532=>?_) λc532=>?_
  ·exact tL
  ·exact tL
 ·have lb533:=(kv244.fg).le
  exact tL
theorem tLF276_2_229 {v198:G95} {v0:G27} {v91:Int} {v156:Int} {v1} {v200:Int} {v201 v202 v203 v204 v205 v206 v207 v208} (kv198:okG95 v198) (kv0:okG27 v0) (q0:0<=v91/\v91<ln v0.fc) (q1:∀ v240,gx (Sl.es v0.fc) v91=some v240->0<=v156/\v156<ln v240.fe) (q2:∀ v240,gx (Sl.es v0.fc) v91=some v240->∀ v242,gx (Sl.es v240.fe) v156=some v242->v242=v198) (b0:0<=v200) (b1:v200<=3):Tot (LF276_2_229 v198 v0 v91 v156 v1 v200 v201 v202 v203 v204 v205 v206 v207 v208) (λr=>match r with|.inl r=>(r.1=v200+1/\v200<3)/\True/\True/\True/\True/\True/\True/\True/\True|.inr (.inl r)=>True/\True/\True/\True/\True/\True/\True/\True|.inr (.inr r)=>True/\True/\True/\True/\True/\True/\True/\True):=by
 refine t_bd (λc534=>?_) λc534=>?_
 ·have lc534:=(kv198.ff).le
  refine t_bi (Xg (kv0.fc) tI tI) λv240 hv240 ov240=>?_
  have qq536:=q1 v240 ov240
  refine t_bi (Xg (hv240.fe) tI tI) λv242 hv242 ov242=>?_
  have qq537:ln v242.ff=ln v198.ff:=congrArg (λz=>ln z.ff) (q2 v240 ov240 v242 ov242)
  refine t_bi (Xg (hv242.ff) tI tI) λv244 hv244 ov244=>?_
  have qq540:=q1 v240 ov240
  have qq543:ln v242.ff=ln v198.ff:=congrArg (λz=>ln z.ff) (q2 v240 ov240 v242 ov242)
  refine Xb (Xe (λ(v246,v247,v248,v249,v250,v251,v252,v253,v254)=>v246) 1000 (by decide) (λ(v246,v247,v248,v249,v250,v251,v252,v253,v254)=>True) (T:=tru) tB tB tZ ?_) ?_
  ·rintro⟨v246,v247,v248,v249,v250,v251,v252,v253,v254⟩ hI h0 h1
   refine(tLF276_2_275 hv244 kv0 tI (oq ov240 tI) (oq ov240 (oq ov242 tI)) (by intro y544 g544;obtain rfl:=Option.some.inj (ov240.symm.trans g544);intro y545 g545;obtain rfl:=Option.some.inj (ov242.symm.trans g545);intro y546 g546;obtain rfl:=Option.some.inj (ov244.symm.trans g546);rfl) h0 h1).mono ?_
   exact tM
  ·rintro(⟨v255,v256,v257,v258,v259,v260,v261,v262⟩|⟨v263,v264,v265,v266,v267,v268,v269,v270⟩) ho271
   ·try dsimp only at ho271 ⊢
    exact tL
   ·try dsimp only at ho271 ⊢
    exact(tJF276_2_239 tI tI).mono tM
 ·have lb548:=(kv198.ff).le
  exact tL
theorem tLF276_2_185 {v154:G75} {v0:G27} {v91:Int} {v1} {v156:Int} {v157 v158 v159 v160 v161 v162 v163 v164} (kv154:okG75 v154) (kv0:okG27 v0) (q0:0<=v91/\v91<ln v0.fc) (q1:∀ v196,gx (Sl.es v0.fc) v91=some v196->v196=v154) (b0:0<=v156) (b1:v156<=5):Tot (LF276_2_185 v154 v0 v91 v1 v156 v157 v158 v159 v160 v161 v162 v163 v164) (λr=>match r with|.inl r=>(r.1=v156+1/\v156<5)/\True/\True/\True/\True/\True/\True/\True/\True|.inr (.inl r)=>True/\True/\True/\True/\True/\True/\True/\True|.inr (.inr r)=>True/\True/\True/\True/\True/\True/\True/\True):=by
 refine t_bd (λc549=>?_) λc549=>?_
 ·have lc549:=(kv154.fe).le
  refine t_bi (Xg (kv0.fc) tI tI) λv196 hv196 ov196=>?_
  have qq551:ln v196.fe=ln v154.fe:=congrArg (λz=>ln z.fe) (q1 v196 ov196)
  refine t_bi (Xg (hv196.fe) tI tI) λv198 hv198 ov198=>?_
  have qq554:ln v196.fe=ln v154.fe:=congrArg (λz=>ln z.fe) (q1 v196 ov196)
  refine Xb (Xe (λ(v200,v201,v202,v203,v204,v205,v206,v207,v208)=>v200) 3 (by decide) (λ(v200,v201,v202,v203,v204,v205,v206,v207,v208)=>True) (T:=tru) tB tB tZ ?_) ?_
  ·rintro⟨v200,v201,v202,v203,v204,v205,v206,v207,v208⟩ hI h0 h1
   refine(tLF276_2_229 hv198 kv0 tI (oq ov196 tI) (oq ov196 (oq ov198 rfl)) h0 h1).mono ?_
   exact tM
  ·rintro(⟨v209,v210,v211,v212,v213,v214,v215,v216⟩|⟨v217,v218,v219,v220,v221,v222,v223,v224⟩) ho225
   ·try dsimp only at ho225 ⊢
    exact tL
   ·try dsimp only at ho225 ⊢
    exact(tJF276_2_195 tI tI).mono tM
 ·have lb558:=(kv154.fe).le
  exact tL
theorem tLF276_2_120 {v0 v1} {v91:Int} {v92 v93 v94 v95 v96 v97 v98 v99} (kv0:okG27 v0) (b0:0<=v91) (b1:v91<=10):Tot (LF276_2_120 v0 v1 v91 v92 v93 v94 v95 v96 v97 v98 v99) (λr=>match r with|.inl r=>(r.1=v91+1/\v91<10)/\True/\True/\True/\True/\True/\True/\True/\True|.inr (.inl r)=>True/\True/\True/\True/\True/\True/\True/\True|.inr (.inr r)=>True/\True/\True/\True/\True/\True/\True/\True):=by
 refine t_bd (λc559=>?_) λc559=>?_
 ·have lc559:=(kv0.fc).le
  refine t_bi (Xg (kv0.fc) tI tI) λv131 hv131 ov131=>?_
  refine Xb (tR291_0_1 kv0) λv151 hv151=>?_
  refine Xc (λc560=>?_) λc560=>?_
  ·exact tL
  ·refine t_bi (Xg (kv0.fc) tI tI) λv154 hv154 ov154=>?_
   obtain rfl:=Option.some.inj (ov131.symm.trans ov154)
   refine Xb (Xe (λ(v156,v157,v158,v159,v160,v161,v162,v163,v164)=>v156) 5 (by decide) (λ(v156,v157,v158,v159,v160,v161,v162,v163,v164)=>True) (T:=tru) tB tB tZ ?_) ?_
   ·rintro⟨v156,v157,v158,v159,v160,v161,v162,v163,v164⟩ hI h0 h1
    refine(tLF276_2_185 hv131 kv0 tI (oq ov131 rfl) h0 h1).mono ?_
    exact tM
   ·rintro(⟨v165,v166,v167,v168,v169,v170,v171,v172⟩|⟨v173,v174,v175,v176,v177,v178,v179,v180⟩) ho181
    ·try dsimp only at ho181 ⊢
     exact tL
    ·try dsimp only at ho181 ⊢
     exact(tJF276_2_130 tI tI).mono tM
 ·have lb563:=(kv0.fc).le
  exact tL
theorem tJF276_2_27 {v0 v1 v19 v20 v21 v22 v23 v24 v25 v26} (kv0:okG27 v0):Tot (JF276_2_27 v0 v1 v19 v20 v21 v22 v23 v24 v25 v26) (λ_=>True):=by
 refine Xb (Xe (λ(v91,v92,v93,v94,v95,v96,v97,v98,v99)=>v91) 10 (by decide) (λ(v91,v92,v93,v94,v95,v96,v97,v98,v99)=>True) (T:=tru) tB tB tZ ?_) ?_
 ·rintro⟨v91,v92,v93,v94,v95,v96,v97,v98,v99⟩ hI h0 h1
  refine(tLF276_2_120 kv0 h0 h1).mono ?_
  exact tM
 ·rintro(⟨v100,v101,v102,v103,v104,v105,v106,v107⟩|⟨v108,v109,v110,v111,v112,v113,v114,v115⟩) ho116
  ·try dsimp only at ho116 ⊢
   exact tL
  ·try dsimp only at ho116 ⊢
   exact tJF276_2_36 kv0
theorem tJF276_2_347 {v307:Int} {v338 v339 v340 v341 v342 v343 v344 v345 v346} (b0:0<=v307) (b1:v307<4):Tot (JF276_2_347 v307 v338 v339 v340 v341 v342 v343 v344 v345 v346) (λr=>match r with|.inl r=>True/\(r.2.1=v307+1/\v307<4)/\True/\True/\True/\True/\True/\True/\True/\True|.inr (.inl r)=>True/\True/\True/\True/\True/\True/\True/\True|.inr (.inr r)=>True/\True/\True/\True/\True/\True/\True/\True):=by
 exact tL
theorem tLF276_2_404 {v371:G68} {v0:G27} {v307:Int} {v1 v373} {v374:Int} {v375 v376 v377 v378 v379 v380 v381 v382} (kv371:okG68 v371) (kv0:okG27 v0) (q0:0<=v307/\v307<ln v0.fh) (q1:∀ v406,gx (Sl.es v0.fh) v307=some v406->v406=v371) (b0:0<=v374) (b1:v374<=5):Tot (LF276_2_404 v371 v0 v307 v1 v373 v374 v375 v376 v377 v378 v379 v380 v381 v382) (λr=>match r with|.inl r=>True/\(r.2.1=v374+1/\v374<5)/\True/\True/\True/\True/\True/\True/\True/\True|.inr (.inl r)=>True/\True/\True/\True/\True/\True/\True/\True|.inr (.inr r)=>True/\True/\True/\True/\True/\True/\True/\True/\True):=by
 refine t_bd (λc565=>?_) λc565=>?_
 ·have lc565:=(kv371.ft).le
  refine t_bi (Xg (kv0.fh) tI tI) λv406 hv406 ov406=>?_
  have qq567:ln v406.ft=ln v371.ft:=congrArg (λz=>ln z.ft) (q1 v406 ov406)
  refine t_bi (Xg (hv406.ft) tI tI) λv408 hv408 ov408=>?_
  refine Xb (tR291_0_1 kv0) λv428 hv428=>?_
  refine Xc (λc568=>?_) λc568=>?_
  ·exact tL
  ·exact tL
 ·have lb569:=(kv371.ft).le
  exact tL
theorem tLF276_2_336 {v0 v1 v306} {v307:Int} {v308 v309 v310 v311 v312 v313 v314 v315} (kv0:okG27 v0) (b0:0<=v307) (b1:v307<=4):Tot (LF276_2_336 v0 v1 v306 v307 v308 v309 v310 v311 v312 v313 v314 v315) (λr=>match r with|.inl r=>True/\(r.2.1=v307+1/\v307<4)/\True/\True/\True/\True/\True/\True/\True/\True|.inr (.inl r)=>True/\True/\True/\True/\True/\True/\True/\True|.inr (.inr r)=>True/\True/\True/\True/\True/\True/\True/\True):=by
 refine t_bd (λc570=>?_) λc570=>?_
 ·have lc570:=(kv0.fh).le
  refine t_bi (Xg (kv0.fh) tI tI) λv348 hv348 ov348=>?_
  refine Xb (tR291_0_1 kv0) λv368 hv368=>?_
  refine Xc (λc571=>?_) λc571=>?_
  ·exact tL
  ·refine t_bi (Xg (kv0.fh) tI tI) λv371 hv371 ov371=>?_
   obtain rfl:=Option.some.inj (ov348.symm.trans ov371)
   refine Xb (Xe (λ(v373,v374,v375,v376,v377,v378,v379,v380,v381,v382)=>v374) 5 (by decide) (λ(v373,v374,v375,v376,v377,v378,v379,v380,v381,v382)=>True) (T:=tru) tB tB tZ ?_) ?_
   ·rintro⟨v373,v374,v375,v376,v377,v378,v379,v380,v381,v382⟩ hI h0 h1
    refine(tLF276_2_404 hv348 kv0 tI (oq ov348 rfl) h0 h1).mono ?_
    exact tM
   ·rintro(⟨v383,v384,v385,v386,v387,v388,v389,v390⟩|⟨v391,v392,v393,v394,v395,v396,v397,v398,v399⟩) ho400
    ·try dsimp only at ho400 ⊢
     exact tL
    ·try dsimp only at ho400 ⊢
     exact(tJF276_2_347 tI tI).mono tM
 ·have lb574:=(kv0.fh).le
  exact tL
theorem tF276_2 {v0 v1 v2 v3 v4 v5 v6 v7 v8 v9} (kv0:okG27 v0):Tot (F276_2 v0 v1 v2 v3 v4 v5 v6 v7 v8 v9) (λ_=>True):=by
 refine Xb (Xe (λ(v306,v307,v308,v309,v310,v311,v312,v313,v314,v315)=>v307) 4 (by decide) (λ(v306,v307,v308,v309,v310,v311,v312,v313,v314,v315)=>True) (T:=tru) tB tB tZ ?_) ?_
 ·rintro⟨v306,v307,v308,v309,v310,v311,v312,v313,v314,v315⟩ hI h0 h1
  refine(tLF276_2_336 kv0 h0 h1).mono ?_
  exact tM
 ·rintro(⟨v316,v317,v318,v319,v320,v321,v322,v323⟩|⟨v324,v325,v326,v327,v328,v329,v330,v331⟩) ho332
  ·try dsimp only at ho332 ⊢
   exact tL
  ·try dsimp only at ho332 ⊢
   exact tJF276_2_27 kv0
theorem tJF291_11 {v3 v4 v5 v6 v7 v8 v9 v10}:Tot (JF291_11 v3 v4 v5 v6 v7 v8 v9 v10) (λ_=>True):=by
 exact tL
theorem tF291 {v0 v1} (kv0:okG27 v0):Tot (F291 v0 v1) (λ_=>True):=by
 refine Xc (λc576=>?_) λc576=>?_
 ·exact tL
 ·refine Xb (tF276_2 kv0) λv22 hv22=>?_
  refine Xc (λc577=>?_) λc577=>?_
  ·exact tL
  ·exact tJF291_11
theorem tF189 {v0:Sl Int} (kv0:(OkSl (λ_=>True) 1000) v0):Tot (F189 v0) (λr=>ln r<=1000):=by
 refine t_be (λc=>?_) (λc=>?_)
 ·refine Xb (R:=λ_=>True) (Yo (λs=>s=1) (λ_=>0) (λ_=>True) (λs hs=>?_) rfl (by decide)) λo6 _=>?_
  ·subst hs
   right
   refine⟨(),?_,trivial⟩
   unfold LF189_10
   have e:decide ((1:Int)<ln v0)=false:=decide_eq_false (by omega)
   rw[e]
   rfl
  ·show Tot JF189_4 _
   unfold JF189_4
   exact Xd (show(0:Int)<=1000 by decide)
 ·have lb:=kv0.le
  refine Xb (t_gmk (by omega) (by omega) (by decide)) λv2 hv2=>?_
  refine Xb (Xe (λ(v14,_)=>v14) 1000 (by decide) (λ(v14,v15)=>1<=v14/\v15.length=v2) (T:=λr=>r.length=v2) (by (try dsimp only);omega) (by (try dsimp only);omega) (by (try dsimp only);simp) ?_) ?_
  ·rintro⟨v14,v15⟩ hI h0 h1
   obtain⟨hI1,hI⟩:=hI
   unfold LF189_21
   refine t_bd (λc2=>?_) (λc2=>?_)
   ·have e:wi (v14-1)=v14-1:=Xr (by omega) (by omega)
    rw[e]
    refine Xb (t_gin (by omega) (by omega)) λv23 _=>?_
    refine Xb (t_gxL (by omega) (by omega)) λv25 _=>?_
    refine Xb (Xg kv0 (by omega) (by omega)) λv27 hv27=>?_
    refine Xb (t_gin (by omega) (by omega)) λv29 _=>?_
    refine Xb (t_gset (by omega) (by omega)) λv31 hv31=>?_
    have e2:wi (v14+1)=v14+1:=Xr (by omega) (by omega)
    exact Xd ⟨⟨by show 1<=wi (v14+1);omega,hv31.2.trans hI⟩,e2,by show v14<1000;omega⟩
   ·exact Xd hI
  ·rintro v16 ho
   show Tot (JF189_13 v2 v16) _
   unfold JF189_13
   refine Xb (t_gfz ho) λ_ _=>?_
   exact Xd (show((v16.length:Nat):Int)<=1000 by omega)
theorem tF100 {v0 v1} (kv0:okG100 v0):Tot (F100 v0 v1) (λr=>ln r.1<=1000/\True):=by
 refine Xb (tF188 kv0) λv2 hv2=>?_
 obtain⟨hv2_0,hv2_1⟩:=hv2
 refine t_bn (λc580=>?_) λc580=>?_
 ·exact tL
 ·refine Xb (tF189 (OkSl.tr (s:=v2.1) (n:=1000) tI)) λv5 hv5=>?_
  have lb581:=(OkSl.tr (s:=v5) (n:=1000) tI).le
  exact tL
theorem tJF231_1_7 {v1:G27} {v4:G236×Bool} {v6:Bool} (kv1:okG27 v1) (q0:v6=false->∃ M C V x,gx (Sl.es v1.fc) v4.1.fy=some M/\gx (Sl.es M.fe) v4.1.fA=some C/\gx (Sl.es C.ff) v4.1.fw=some V/\gx (Sl.es V.fg) v4.1.fU=some x):Tot (JF231_1_7 v1 v4 v6) (λ_=>True):=by
 refine Xc (λ_=>Xd trivial) λc=>?_
 obtain⟨M,C,V,x,g1,g2,g3,g4⟩:=q0 c
 have kM:=kv1.fc.2 M (gx_mem g1)
 have kC:=kM.fe.2 C (gx_mem g2)
 have kV:=kC.ff.2 V (gx_mem g3)
 rw[g1]
 simp only[Option.bind_some]
 refine Xb (tF99 kM) λv11 _=>?_
 rw[g2]
 simp only[Option.bind_some]
 rw[g3]
 simp only[Option.bind_some]
 refine Xb (tF100 kV) λv17 _=>?_
 refine t_bd (λ_=>Xd trivial) λc2=>?_
 exact Xb (t_gx (Yr g4).1 (by simp only[ln]at c2;omega)) λv20 _=>Xd trivial
def okPl (s:G27) (k st m v e:Int):Prop:=k=4->∃ M C V x,gx (Sl.es s.fc) m=some M/\gx (Sl.es M.fe) st=some C/\gx (Sl.es C.ff) v=some V/\gx (Sl.es V.fg) e=some x
def okP8 (s:G27) (t:Int×Int×Int×Int×Int×Int×Int×Bool):Prop:=okPl s t.1 t.2.2.1 t.2.2.2.1 t.2.2.2.2.1 t.2.2.2.2.2.1
def okP9 (s:G27) (t:Int×Int×Int×Int×Int×Int×Int×Bool×Bool):Prop:=t.2.2.2.2.2.2.2.2=true->okPl s t.1 t.2.2.1 t.2.2.2.1 t.2.2.2.2.1 t.2.2.2.2.2.1
theorem R15_hit {v0 v1 v2 v3 v4 v5 v6 v7 v8 v9 v10 v11 v12 v13 v14 v15 v16 v17 r} (h:Vn v0 v1 v2 v3 v4 v5 v6 v7 v8 v9 v10 v11 v12 v13 v14 v15 v16 v17=some r) (hr:r.2.2.2.2.2.2.2.2=true):r=(v0,v1,v2,v3,v4,v5,v6,true,true):=by
 rcases cor h with⟨_,h⟩|⟨_,h⟩
 ·exact(Option.some.inj h).symm
 ·cases h
  cases hr
theorem i275 {v244 s v91 v156 v200 v1 a b c d e f g i j t} (h:LF276_2_275 v244 s v91 v156 v200 v1 a b c d e f g i j=some (.inr (.inl t))):okP8 s t:=by
 rcases cor h with⟨_,h⟩|⟨_,h⟩
 ·obtain⟨M,g1,h⟩:=Xa h
  obtain⟨C,g2,h⟩:=Xa h
  obtain⟨V,g3,h⟩:=Xa h
  obtain⟨x,g4,h⟩:=Xa h
  obtain⟨r,hr,h⟩:=Xa h
  rcases cor h with⟨c,h⟩|⟨_,h⟩
  ·obtain rfl:=R15_hit hr c
   cases h
   exact λ_=>⟨M,C,V,x,g1,g2,g3,g4⟩
  ·cases h
 ·cases h
theorem i229 {v198 s v91 v156 v1 a b c d e f g i j t} (h:LF276_2_229 v198 s v91 v156 v1 a b c d e f g i j=some (.inr (.inl t))):okP8 s t:=by
 rcases cor h with⟨_,h⟩|⟨_,h⟩
 ·obtain⟨M,g1,h⟩:=Xa h
  obtain⟨C,g2,h⟩:=Xa h
  obtain⟨V,g3,h⟩:=Xa h
  obtain⟨o,ho,h⟩:=Xa h
  have q:=Wh (T:=λo=>match o with|.inl t=>okP8 s t|.inr _=>True) ho (by
   rintro⟨a,b,c,d,e,f,g,i,j⟩ (o|o) h
   ·exact i275 h
   ·trivial)
  rcases o with⟨a,b,c,d,e,f,g,i⟩|⟨a,b,c,d,e,f,g,i⟩
  ·cases h
   exact q
  ·cases h
 ·cases h
theorem i185 {v154 s v91 v1 a b c d e f g i j t} (h:LF276_2_185 v154 s v91 v1 a b c d e f g i j=some (.inr (.inl t))):okP8 s t:=by
 rcases cor h with⟨_,h⟩|⟨_,h⟩
 ·obtain⟨M,g1,h⟩:=Xa h
  obtain⟨C,g2,h⟩:=Xa h
  obtain⟨o,ho,h⟩:=Xa h
  have q:=Wh (T:=λo=>match o with|.inl t=>okP8 s t|.inr _=>True) ho (by
   rintro⟨a,b,c,d,e,f,g,i,j⟩ (o|o) h
   ·exact i229 h
   ·trivial)
  rcases o with⟨a,b,c,d,e,f,g,i⟩|⟨a,b,c,d,e,f,g,i⟩
  ·cases h
   exact q
  ·cases h
 ·cases h
theorem i120 {s v1 a b c d e f g i j t} (h:LF276_2_120 s v1 a b c d e f g i j=some (.inr (.inl t))):okP8 s t:=by
 rcases cor h with⟨_,h⟩|⟨_,h⟩
 ·obtain⟨M,g1,h⟩:=Xa h
  obtain⟨r,hr,h⟩:=Xa h
  rcases cor h with⟨c,h⟩|⟨_,h⟩
  ·obtain rfl:=R15_hit hr c
   cases h
   exact λh=>by dsimp only at h;exact absurd h (by decide)
  ·obtain⟨M2,g2,h⟩:=Xa h
   obtain⟨o,ho,h⟩:=Xa h
   have q:=Wh (T:=λo=>match o with|.inl t=>okP8 s t|.inr _=>True) ho (by
    rintro⟨a,b,c,d,e,f,g,i,j⟩ (o|o) h
    ·exact i185 h
    ·trivial)
   rcases o with⟨a,b,c,d,e,f,g,i⟩|⟨a,b,c,d,e,f,g,i⟩
   ·cases h
    exact q
   ·cases h
 ·cases h
theorem i66 {s v1 a b c d e f g i j t} (h:LF276_2_66 s v1 a b c d e f g i j=some (.inr (.inl t))):okP8 s t:=by
 rcases cor h with⟨_,h⟩|⟨_,h⟩
 ·obtain⟨M,g1,h⟩:=Xa h
  obtain⟨r,hr,h⟩:=Xa h
  rcases cor h with⟨c,h⟩|⟨_,h⟩
  ·obtain rfl:=R15_hit hr c
   cases h
   exact λh=>by dsimp only at h;exact absurd h (by decide)
  ·cases h
 ·cases h
theorem i404 {p s a1 v1 a0 a b c d e f g i j t} (h:LF276_2_404 p s a1 v1 a0 a b c d e f g i j=some (.inr (.inl t))):okP8 s t:=by
 rcases cor h with⟨_,h⟩|⟨_,h⟩
 ·obtain⟨M,g1,h⟩:=Xa h
  obtain⟨M,g1,h⟩:=Xa h
  obtain⟨r,hr,h⟩:=Xa h
  rcases cor h with⟨c,h⟩|⟨_,h⟩
  ·obtain rfl:=R15_hit hr c
   cases h
   exact λh=>by dsimp only at h;exact absurd h (by decide)
  ·cases h
 ·cases h
theorem i336 {s v1 a0 a b c d e f g i j t} (h:LF276_2_336 s v1 a0 a b c d e f g i j=some (.inr (.inl t))):okP8 s t:=by
 rcases cor h with⟨_,h⟩|⟨_,h⟩
 ·obtain⟨M,g1,h⟩:=Xa h
  obtain⟨r,hr,h⟩:=Xa h
  rcases cor h with⟨c,h⟩|⟨_,h⟩
  ·obtain rfl:=R15_hit hr c
   cases h
   exact λh=>by dsimp only at h;exact absurd h (by decide)
  ·obtain⟨M2,g2,h⟩:=Xa h
   obtain⟨o,ho,h⟩:=Xa h
   have q:=Wh (T:=λo=>match o with|.inl t=>okP8 s t|.inr _=>True) ho (by
    rintro⟨a0,a,b,c,d,e,f,g,i,j⟩ (o|o) h
    ·exact i404 h
    ·trivial)
   rcases o with⟨a,b,c,d,e,f,g,i⟩|⟨k,a,b,c,d,e,f,g,i⟩
   ·cases h
    exact q
   ·cases h
 ·cases h
theorem iJ36 {s v1 a b c d e f g i t} (h:JF276_2_36 s v1 a b c d e f g i=some t):okP9 s t:=by
 obtain⟨o,ho,h⟩:=Xa h
 have q:=Wh (T:=λo=>match o with|.inl t=>okP8 s t|.inr _=>True) ho (by
  rintro⟨a,b,c,d,e,f,g,i,j⟩ (o|o) h
  ·exact i66 h
  ·trivial)
 rcases o with⟨a,b,c,d,e,f,g,i⟩|⟨a,b,c,d,e,f,g,i⟩
 ·cases h
  exact λ_=>q
 ·cases h
  exact λh=>by cases h
theorem iJ27 {s v1 a b c d e f g i t} (h:JF276_2_27 s v1 a b c d e f g i=some t):okP9 s t:=by
 obtain⟨o,ho,h⟩:=Xa h
 have q:=Wh (T:=λo=>match o with|.inl t=>okP8 s t|.inr _=>True) ho (by
  rintro⟨a,b,c,d,e,f,g,i,j⟩ (o|o) h
  ·exact i120 h
  ·trivial)
 rcases o with⟨a,b,c,d,e,f,g,i⟩|⟨a,b,c,d,e,f,g,i⟩
 ·cases h
  exact λ_=>q
 ·exact iJ36 h
theorem i78 {s v1 a b c d e f g i t} (h:F276_2 s v1 a b c d e f g i=some t):okP9 s t:=by
 obtain⟨o,ho,h⟩:=Xa h
 have q:=Wh (T:=λo=>match o with|.inl t=>okP8 s t|.inr _=>True) ho (by
  rintro⟨a0,a,b,c,d,e,f,g,i,j⟩ (o|o) h
  ·exact i336 h
  ·trivial)
 rcases o with⟨a,b,c,d,e,f,g,i⟩|⟨a,b,c,d,e,f,g,i⟩
 ·cases h
  exact λ_=>q
 ·exact iJ27 h
theorem F15_ok {s:G27} {id:G58} {p:G236} (h:F291 s id=some (p,true)):okPl s p.fj p.fA p.fy p.fw p.fU:=by
 rcases cor h with⟨_,h⟩|⟨_,h⟩
 ·cases h
 ·obtain⟨t,ht,h⟩:=Xa h
  rcases cor h with⟨c,h⟩|⟨_,h⟩
  ·have q:=i78 ht c
   have e:=Option.some.inj h
   have e1:=congrArg Prod.fst e
   dsimp only at e1
   subst e1
   exact q
  ·cases h
theorem tF231_1 {v0 v1 v2} {v3:List G159} (kv1:okG27 v1) (kl:v3.length+0<=500000000000):Tot (F231_1 v0 v1 v2 v3) (λ_=>True):=by
 unfold F231_1
 obtain⟨⟨p,b⟩,eb,_⟩:=tF291 (v0:=v1) (v1:=v0) kv1
 rw[eb]
 simp only[Option.bind_some]
 cases b with
 |false=>simp only[Bool.not_false,cond_true];exact tJF231_1_7 kv1 (by intro h;cases h)
 |true=>simp only[Bool.not_true,cond_false];exact tJF231_1_7 kv1 λh=>F15_ok eb (by simpa using h)
theorem tF315 {v0 v1}:Tot (F315 v0 v1) (λ_=>True):=by
 refine t_bd (λc582=>?_) λc582=>?_
 ·exact tL
 ·exact tL
theorem tF292 {v0}:Tot (F292 v0) (λ_=>True):=by
 refine Xb (tF315) λv1 hv1=>?_
 refine Xc (λc583=>?_) λc583=>?_
 ·refine Xb (tF315) λv4 hv4=>?_
  refine Xc (λc584=>?_) λc584=>?_
  ·refine Xb (tF315) λv7 hv7=>?_
   refine Xc (λc585=>?_) λc585=>?_
   ·refine Xb (tF315) λv10 hv10=>?_
    exact tL
   ·exact tL
  ·exact tL
 ·exact tL
theorem tF293 {v0}:Tot (F293 v0) (λ_=>True):=by
 refine t_be (λc586=>?_) λc586=>?_
 ·exact tL
 ·exact tL
theorem tF199 {v0}:Tot (F199 v0) (λ_=>True):=by
 exact tL
theorem tF116 {v0 v1}:Tot (F116 v0 v1) (λ_=>True):=by
 refine Xb (tF199) λv2 hv2=>?_
 refine Xb (tF199) λv4 hv4=>?_
 refine Xc (λc587=>?_) λc587=>?_
 ·refine Xc (λc588=>?_) λc588=>?_
  ·exact tL
  ·exact tL
 ·refine Xc (λc589=>?_) λc589=>?_
  ·exact tL
  ·refine t_bd (λc590=>?_) λc590=>?_
   ·exact tL
   ·refine t_bd (λc591=>?_) λc591=>?_
    ·exact tL
    ·exact tL
theorem tJF115_1:Tot (JF115_1 ) (λ_=>True):=by
 exact tL
theorem tLF115_8 {v0:Sl Int} {v2:Int} (kv0:(OkSl (λ_=>True) 1000) v0) (b0:0<=v2) (b1:v2<=1000):Tot (LF115_8 v0 v2) (λr=>match r with|.inl r=>(r=v2+1/\v2<1000)|.inr (.inl r)=>True|.inr (.inr r)=>True):=by
 refine t_bd (λc592=>?_) λc592=>?_
 ·have lc592:=(kv0).le
  refine t_bi (Xg kv0 tI tI) λv10 hv10 ov10=>?_
  refine t_bn (λc593=>?_) λc593=>?_
  ·exact tL
  ·exact tL
 ·have lb594:=(kv0).le
  exact tL
theorem tF115 {v0:Sl Int} (kv0:(OkSl (λ_=>True) 1000) v0):Tot (F115 v0) (λ_=>True):=by
 refine Xb (Xe (λv2=>v2) 1000 (by decide) (λv2=>True) (T:=tru) tB tB tZ ?_) ?_
 ·rintro v2 hI h0 h1
  refine(tLF115_8 kv0 h0 h1).mono ?_
  exact tM
 ·rintro(v3|⟨⟩) ho4
  ·try dsimp only at ho4 ⊢
   exact tL
  ·try dsimp only at ho4 ⊢
   exact tJF115_1
theorem tF294 {v0 v1}:Tot (F294 v0 v1) (λ_=>True):=by
 refine Xb (tF116) λv2 hv2=>?_
 refine Xb (tF116) λv4 hv4=>?_
 refine Xb (tF115 OkSl.lit) λv6 hv6=>?_
 exact tL
theorem tJF232_8 {v0 v7}:Tot (JF232_8 v0 v7) (λ_=>True):=by
 refine Xc (λc596=>?_) λc596=>?_
 ·exact tL
 ·refine Xb (tF294) λv10 hv10=>?_
  refine t_bd (λc597=>?_) λc597=>?_
  ·exact tL
  ·exact tL
theorem tJF232_5 {v0 v4}:Tot (JF232_5 v0 v4) (λ_=>True):=by
 refine Xc (λc598=>?_) λc598=>?_
 ·exact tL
 ·refine t_bn (λc599=>?_) λc599=>?_
  ·exact tJF232_8
  ·refine Xb (tF293) λv14 hv14=>?_
   refine Xc (λc600=>?_) λc600=>?_
   ·exact tJF232_8
   ·exact tJF232_8
theorem tJF232_2 {v0 v1}:Tot (JF232_2 v0 v1) (λ_=>True):=by
 refine Xc (λc601=>?_) λc601=>?_
 ·exact tL
 ·refine Xb (tF292) λv17 hv17=>?_
  refine Xc (λc602=>?_) λc602=>?_
  ·exact tJF232_5
  ·refine Xb (tF292) λv20 hv20=>?_
   exact tJF232_5
theorem tF232 {v0}:Tot (F232 v0) (λ_=>True):=by
 refine t_bd (λc603=>?_) λc603=>?_
 ·exact tJF232_2
 ·exact tJF232_2
theorem tLF157_1_15w {v0 v1} {v2:List G159} {v6:List G263} {v7:List Bool} {v8:Int} (kv0:okG27 v0) (kl:v2.length+v6.length+v7.length+1<=500000000000) (b0:0<=v8) (b1:v8<=10) (a:(v6.length:Int)=v8/\(v7.length:Int)=v8/\v8<=ln v0.fi):Tot (LF157_1_15 v0 v1 v2 v6 v7 v8) (λr=>match r with
  |.inl (l,m,i)=>((l.length:Int)=i/\(m.length:Int)=i/\i<=ln v0.fi)/\i=v8+1/\v8<10
  |.inr (l,m)=>(l.length:Int)=ln v0.fi/\(m.length:Int)=ln v0.fi):=by
 have lb:=(kv0.fi).le
 refine t_bd (λc=>?_) λc=>Xd (by dsimp only;omega)
 refine Xb (Xg kv0.fi b0 c) λv17 _=>?_
 refine Xb (tF231_1 kv0 (by omega)) λv23 _=>?_
 refine Xb (tF231_1 kv0 (by omega)) λv29 _=>?_
 refine Xb (t_gapp (by show(v6.length+1)*72<=_;omega)) λv31 h31=>?_
 have e31:(v31.length:Int)=v8+1:=by rw[h31];simp only[List.length_append,Sl.es,List.length_cons,List.length_nil];omega
 have ew:=Xr (n:=v8+1) (by omega) (by omega)
 have fin:∀ {b:Bool},Tot ((gapp 1 v7 (Sl.es (Sl.full [b]))).bind λv34=>some (.inl (v31,v34,wi (v8+1)))) (λr:(List G263×List Bool×Int)⊕(List G263×List Bool)=>match r with
  |.inl (l,m,i)=>((l.length:Int)=i/\(m.length:Int)=i/\i<=ln v0.fi)/\i=v8+1/\v8<10
  |.inr (l,m)=>(l.length:Int)=ln v0.fi/\(m.length:Int)=ln v0.fi):=by
  intro b
  refine Xb (t_gapp (by show(v7.length+1)*1<=_;omega)) λv34 h34=>?_
  have e34:(v34.length:Int)=v8+1:=by rw[h34];simp only[List.length_append,Sl.es,List.length_cons,List.length_nil];omega
  exact Xd ⟨⟨by show(v31.length:Int)=wi (v8+1);omega,by show(v34.length:Int)=wi (v8+1);omega,by show wi (v8+1)<=_;omega⟩,ew,by show v8<10;omega⟩
 refine Xc (λ_=>fin) λ_=>Xc (λ_=>fin) λ_=>?_
 exact Xb tF232 λ_ _=>fin
theorem tF157_1w {v0 v1} {v2:List G159} (kv0:okG27 v0) (kl:v2.length+22<=500000000000):Tot (F157_1 v0 v1 v2) (λr=>ln r.1=ln v0.fi/\ln r.2=ln v0.fi):=by
 have lb:=(kv0.fi).le
 refine Xb (Xe (λ(_,_,i)=>i) 10 (by decide) (λ(l,m,i)=>(l.length:Int)=i/\(m.length:Int)=i/\i<=ln v0.fi) (T:=λ(l,m)=>(l.length:Int)=ln v0.fi/\(m.length:Int)=ln v0.fi) (by decide) (by decide) ⟨rfl,rfl,by show(0:Int)<=ln v0.fi;omega⟩ ?_) ?_
 ·rintro⟨l,m,i⟩ hI h0 h1
  dsimp only at hI h0 h1 ⊢
  refine(tLF157_1_15w kv0 (by omega) h0 h1 hI).mono ?_
  rintro(⟨l,m,i⟩|⟨l,m⟩) h
  ·exact h
  ·exact h
 ·rintro⟨l,m⟩ h
  exact Xd (by show ln (mkSl l)=_/\ln (mkSl m)=_;rw[ln_mk,ln_mk];exact h)
theorem tF71_1 {v0 v1} {v2:List G159} (kv0:okG27 v0) (kl:v2.length+22<=500000000000):Tot (F71_1 v0 v1 v2) (λr=>r.length<=v2.length+11):=by
 have lb:=(kv0.fi).le
 refine Xb (tF157_1w kv0 (by omega)) λv7 h7=>?_
 refine Xb (Xe (λ(i,_)=>i) 10 (by decide) (λ(i,l)=>(l.length:Int)<=v2.length+i) (T:=λr=>r.length<=v2.length+11) tB tB (by dsimp only;omega) ?_) λo ho=>Xd ho
 rintro⟨v9,v10⟩ hI h0 h1
 dsimp only at hI h0 h1 ⊢
 refine t_bd (λc=>?_) λc=>Xd (show v10.length<=v2.length+11 by omega)
 refine Xb (Xg kv0.fi h0 c) λv18 _=>?_
 refine Xb (t_gx h0 (by simp only[ln]at h7 c;omega)) λv20 _=>?_
 refine Xb (Xz kv0 (by omega)) λv27 h27=>?_
 have ew:=Xr (n:=v9+1) (by omega) (by omega)
 exact Xd ⟨by show(v27.length:Int)<=v2.length+wi (v9+1);omega,ew,by show v9<10;omega⟩
theorem tJF295_2 {v0:Int} {v1:Bool} (q0:v1=false->1<=v0/\v0<=7):Tot (JF295_2 v0 v1) (λ_=>True):=by
 refine Xc (λc=>?_) (λc=>?_)
 ·exact tL
 ·have q:=q0 c
  refine Xb (t_gxL (by rw[Xr (by omega) (by omega)];omega) (by rw[Xr (by omega) (by omega)];simp only[List.length_cons,List.length_nil];omega)) λv4 hv4=>?_
  exact tL
theorem tF295 {v0}:Tot (F295 v0) (λ_=>True):=by
 refine t_bd (λc604=>?_) λc604=>?_
 ·exact tJF295_2 tW
 ·exact tJF295_2 tW
theorem tF233 {v0 v1}:Tot (F233 v0 v1) (λ_=>True):=by
 refine Xb (tF295) λv2 hv2=>?_
 refine t_bd (λc605=>?_) λc605=>?_
 ·refine Xb (tF295) λv5 hv5=>?_
  refine Xb (tF295) λv7 hv7=>?_
  refine t_be (λc606=>?_) λc606=>?_
  ·refine t_be (λc607=>?_) λc607=>?_
   ·refine Xb (tF293) λv11 hv11=>?_
    refine Xc (λc608=>?_) λc608=>?_
    ·exact tL
    ·exact tL
   ·exact tL
  ·exact tL
 ·exact tL
theorem tF235 {v0 v1}:Tot (F235 v0 v1) (λ_=>True):=by
 refine Xb (tF294) λv2 hv2=>?_
 refine t_bd (λc609=>?_) λc609=>?_
 ·exact tL
 ·refine Xb (tF294) λv5 hv5=>?_
  exact tL
theorem tF296 {v0 v1}:Tot (F296 v0 v1) (λ_=>True):=by
 refine Xb (tF294) λv2 hv2=>?_
 refine t_bd (λc610=>?_) λc610=>?_
 ·refine Xb (tF294) λv5 hv5=>?_
  exact tL
 ·exact tL
theorem tF238 {v0 v1}:Tot (F238 v0 v1) (λ_=>True):=by
 refine Xb (tF235) λv2 hv2=>?_
 refine Xc (λc611=>?_) λc611=>?_
 ·refine Xb (tF296) λv5 hv5=>?_
  refine Xb (tF296) λv7 hv7=>?_
  exact tL
 ·exact tL
theorem tF234 {v0 v1}:Tot (F234 v0 v1) (λ_=>True):=by
 refine Xb (tF235) λv2 hv2=>?_
 exact tL
theorem tF237 {v0 v1}:Tot (F237 v0 v1) (λ_=>True):=by
 refine Xb (tF294) λv2 hv2=>?_
 refine t_bd (λc612=>?_) λc612=>?_
 ·exact tL
 ·refine Xb (tF294) λv5 hv5=>?_
  exact tL
theorem tF236 {v0 v1}:Tot (F236 v0 v1) (λ_=>True):=by
 refine Xb (tF237) λv2 hv2=>?_
 exact tL
theorem F192_pos {k r:Int} (h:F295 k=some r) (hr:0<r):1<=k/\k<=7:=by
 unfold F295 JF295_2 at h
 cases h1:decide (k<1)with
 |true=>rw[h1]at h;have:=Option.some.inj h;omega
 |false=>
  rw[h1]at h
  cases h2:decide (k>7)with
  |true=>rw[h2]at h;have:=Option.some.inj h;omega
  |false=>have a:=of_decide_eq_false h1;have b:=of_decide_eq_false h2;omega
theorem F161_kind {a b:G263} (h:F233 a b=some true):1<=a.fj/\a.fj<=7:=by
 obtain⟨r,hr,h⟩:=Xa h
 cases h1:decide (r>0)with
 |true=>exact F192_pos hr (of_decide_eq_true h1)
 |false=>rw[h1]at h;cases h
theorem tF158 {v0 v1}:Tot (F158 v0 v1) (λ_=>True):=by
 unfold F158
 obtain⟨b,eb,_⟩:=tF233 (v0:=v0) (v1:=v1)
 rw[eb]
 cases b with
 |false=>simp only[Option.bind_some,Bool.not_false,cond_true];exact tL
 |true=>
  simp only[Option.bind_some,Bool.not_true,cond_false]
  have hk:=F161_kind eb
  have hw:wi (v0.fj-1)=v0.fj-1:=Xr (by omega) (by omega)
  rw[hw]
  refine Xc (λc0=>Xb (tF238) λv hv=>Xd trivial) λc0=>?_
  refine Xc (λc1=>Xb (tF234) λv hv=>Xd trivial) λc1=>?_
  refine Xc (λc2=>Xb (tF234) λv hv=>Xd trivial) λc2=>?_
  refine Xc (λc3=>Xb (tF236) λv hv=>Xd trivial) λc3=>?_
  refine Xc (λc4=>Xb (tF236) λv hv=>Xd trivial) λc4=>?_
  refine Xc (λc5=>Xb (tF234) λv hv=>Xd trivial) λc5=>?_
  refine Xc (λc6=>Xb (tF236) λv hv=>Xd trivial) λc6=>?_
  replace c0:=beq_eq_false_iff_ne.mp c0
  replace c1:=beq_eq_false_iff_ne.mp c1
  replace c2:=beq_eq_false_iff_ne.mp c2
  replace c3:=beq_eq_false_iff_ne.mp c3
  replace c4:=beq_eq_false_iff_ne.mp c4
  replace c5:=beq_eq_false_iff_ne.mp c5
  replace c6:=beq_eq_false_iff_ne.mp c6
  omega
theorem tJF72_1_19 {v9:Int} {v18:List G159} (kl:v18.length+0<=500000000000) (b0:0<=v9) (b1:v9<10):Tot (JF72_1_19 v9 v18) (λr=>match r with|.inl r=>(r.1=v9+1/\v9<10)/\r.2.length<=v18.length+0|.inr r=>r.length<=v18.length+0):=by
 exact tL
theorem tJF72_1_23 {v20 v0 v1} {v10:List G159} {v9:Int} {v22} (kv0:okG27 v0) (kl:v10.length+1<=500000000000) (b0:0<=v9) (b1:v9<10):Tot (JF72_1_23 v20 v0 v1 v10 v9 v22) (λr=>match r with|.inl r=>(r.1=v9+1/\v9<10)/\r.2.length<=v10.length+1|.inr r=>r.length<=v10.length+1):=by
 refine Xb (Xz kv0 tI) λv29 hv29=>?_
 exact(tJF72_1_19 tI tI tI).mono tM
theorem tLF72_1_16w {v0 v1} {v7:Sl G263×Sl Bool} {v9:Int} {v10:List G159} (kv0:okG27 v0) (h7:ln v7.1=ln v0.fi/\ln v7.2=ln v0.fi) (kl:v10.length+1<=500000000000) (b0:0<=v9) (b1:v9<=10):Tot (LF72_1_16 v0 v7 v1 v9 v10) (λr=>match r with
  |.inl r=>(r.1=v9+1/\v9<10)/\r.2.length<=v10.length+1
  |.inr r=>r.length<=v10.length+1):=by
 have lb:=(kv0.fi).le
 obtain⟨l1,l2⟩:=h7
 refine t_bd (λc=>?_) λc=>Xd (show v10.length<=v10.length+1 by omega)
 refine Xb (Xg kv0.fi b0 c) λv20 _=>?_
 refine Xb (R:=λ_=>True) (Xe (λ(_,i)=>i) 10 (by decide) (λ(_,i)=>i<=v9) (T:=λ_=>True) tB tB tB ?_) ?_
 ·rintro⟨v31,v32⟩ hI h0 h1
  dsimp only at hI h0 h1 ⊢
  have ew:=Xr (n:=v32+1) (by omega) (by omega)
  have key:∀ {b:Bool},(b=true->v32<v9)->Tot (Vz v7 v32 v9 v31 b) (λr=>match r with|.inl s'=>s'.2<=v9/\s'.2=v32+1/\v32<(10:Nat)|.inr _=>True):=by
   intro b hb
   unfold Vz
   refine Xc (λc=>?_) λ_=>Xd trivial
   have hb:=hb c
   refine Xb (t_gx h0 (by simp only[ln]at l2 c;simp only[ln]at *;omega)) λv42 _=>?_
   refine Xc (λ_=>?_) λ_=>?_
   ·refine Xb (t_gx h0 (by simp only[ln]at *;omega)) λv45 _=>?_
    refine Xb (t_gx b0 (by simp only[ln]at *;omega)) λv47 _=>?_
    refine Xb tF158 λv49 _=>?_
    exact Xd ⟨by show wi (v32+1)<=v9;omega,ew,by show v32<10;omega⟩
   ·exact Xd ⟨by show wi (v32+1)<=v9;omega,ew,by show v32<10;omega⟩
  unfold LF72_1_38
  refine t_bd (λc2=>?_) λc2=>(key (b:=false) (by intro h;cases h)).mono (by rintro(⟨_,_⟩|_) h<;>exact h)
  refine Xb (t_gx b0 (by simp only[ln]at *;omega)) λv52 _=>?_
  exact Xc (λ_=>(key λ_=>c2).mono (by rintro(⟨_,_⟩|_) h<;>exact h)) λ_=>(key (b:=false) (by intro h;cases h)).mono (by rintro(⟨_,_⟩|_) h<;>exact h)
 ·rintro v33 _
  exact tJF72_1_23 kv0 kl b0 (by omega)
theorem tF72_1 {v0 v1} {v2:List G159} (kv0:okG27 v0) (kl:v2.length+22<=500000000000):Tot (F72_1 v0 v1 v2) (λr=>r.length<=v2.length+11):=by
 have lb:=(kv0.fi).le
 refine Xb (tF157_1w kv0 (by omega)) λv7 h7=>?_
 refine Xb (Xe (λ(i,_)=>i) 10 (by decide) (λ(i,l)=>(l.length:Int)<=v2.length+i) (T:=λr=>r.length<=v2.length+11) tB tB (by dsimp only;omega) ?_) λo ho=>Xd ho
 rintro⟨v9,v10⟩ hI h0 h1
 dsimp only at hI h0 h1 ⊢
 refine(tLF72_1_16w kv0 h7 (by omega) h0 h1).mono ?_
 rintro(⟨i,l⟩|r) h
 ·exact⟨by have:=h.1;have:=h.2;dsimp only at *;omega,h.1⟩
 ·show r.length<=_
  have:r.length<=v10.length+1:=h
  omega
theorem tF159 {v0 v1} (kv1:okG75 v1):Tot (F159 v0 v1) (λ_=>True):=by
 refine t_bn (λc613=>?_) λc613=>?_
 ·refine Xb (Wk) λv3 hv3=>?_
  refine Xc (λc614=>?_) λc614=>?_
  ·exact tL
  ·refine Xb (Wk) λv6 hv6=>?_
   exact tL
 ·refine Xb (Wk) λv8 hv8=>?_
  exact tL
theorem tLF131_6_11 {v0 v1} {v4:Int} {v5:List G159} (kv0:okG27 v0) (kl:v5.length+1<=500000000000) (b0:0<=v4) (b1:v4<=10):Tot (LF131_6_11 v0 v1 v4 v5) (λr=>match r with|.inl r=>(r.1=v4+1/\v4<10)/\r.2.length<=v5.length+1|.inr r=>r.length<=v5.length+1):=by
 refine t_bd (λc615=>?_) λc615=>?_
 ·have lc615:=(kv0.fc).le
  refine t_bi (Xg (kv0.fc) tI tI) λv13 hv13 ov13=>?_
  refine Xb (tF159 hv13) λv15 hv15=>?_
  refine Xb (Xz kv0 tI) λv22 hv22=>?_
  exact tL
 ·have lb616:=(kv0.fc).le
  exact tL
theorem tF131_6 {v0 v1} {v2:List G159} (kv0:okG27 v0) (kl:v2.length+11<=500000000000):Tot (F131_6 v0 v1 v2) (λr=>r.length<=v2.length+11):=by
 refine Xb (Xe (λ(v4,v5)=>v4) 10 (by decide) (λ(v4,v5)=>(v5.length:Int)<=v2.length+0+1*v4) (T:=λr=>r.length<=v2.length+11) tB tB tZ ?_) ?_
 ·rintro⟨v4,v5⟩ hI h0 h1
  try dsimp only at hI h0 h1 ⊢
  refine(tLF131_6_11 kv0 tI h0 h1).mono ?_
  exact tM
 ·rintro v6 ho7
  try dsimp only at ho7 ⊢
  exact tL
theorem u8r (x:Int):0<=IntKind.wrap .u8 x/\IntKind.wrap .u8 x<256:=by rw[IntKind.wrap_u8];omega
theorem tJF245_6 {v4 v5}:Tot (JF245_6 v4 v5) (λ_=>True):=by
 refine Xc (λ_=>?_) λ_=>?_
 ·exact Xb (t_gch (u8r _).1 (u8r _).2) λ_ _=>Xd trivial
 ·exact Xb (t_gch (u8r _).1 (u8r _).2) λ_ _=>Xd trivial
theorem tJF245_3 {v1 v2}:Tot (JF245_3 v1 v2) (λ_=>True):=by
 refine t_bd (λc618=>?_) λc618=>?_
 ·exact tJF245_6
 ·exact tJF245_6
theorem tF245 {v0}:Tot (F245 v0) (λ_=>True):=by
 refine t_bd (λc619=>?_) λc619=>?_
 ·exact tJF245_3
 ·exact tJF245_3
theorem tF198 {v0}:Tot (F198 v0) (λ_=>True):=by
 refine Xb (tF245) λv1 hv1=>?_
 exact tL
theorem F129_pos {v0:G265} (h:F161 v0=some true):0<v0.fo:=by
 rcases cor h with⟨c,_⟩|⟨_,h⟩
 ·exact of_decide_eq_true c
 ·cases h
theorem tF161 {v0} (kv0:okG265 v0):Tot (F161 v0) (λ_=>True):=by
 refine t_bd (λc=>?_) λ_=>Xd trivial
 have:=kv0.fo
 exact Xb (t_gshl (by rw[Xr (by omega) (by omega)];omega)) λ_ _=>Xd trivial
theorem tJF239_11 {v0 v5 v6 v9} {v10:Int} (kv0:okG265 v0) (q0:v10<=9223372036854775807):Tot (JF239_11 v0 v5 v6 v9 v10) (λr=>okG265 r.1/\True):=by
 have hel620:okG265 (⟨v0.fJ,v0.fG,v5,v6,v9,v10⟩:G265):=⟨tI⟩
 exact tL
theorem tJF239_14 {v0 v5 v6 v7 v1 v13} (kv0:okG265 v0) (kv1:okG75 v1):Tot (JF239_14 v0 v5 v6 v7 v1 v13) (λr=>okG265 r.1/\True):=by
 refine Xc (λc621=>?_) λc621=>?_
 ·have hel622:okG265 (⟨v0.fJ,v0.fG,v5,v6,v7,v0.fo⟩:G265):=⟨kv0.fo⟩
  exact tL
 ·exact(tJF239_11 kv0 kv1.fR).mono tM
theorem tJF239_8 {v1 v0 v5 v6 v7} (kv1:okG75 v1) (kv0:okG265 v0):Tot (JF239_8 v1 v0 v5 v6 v7) (λr=>okG265 r.1/\True):=by
 refine t_bn (λc623=>?_) λc623=>?_
 ·refine Xb (tF161 ⟨kv0.fo⟩) λv16 hv16=>?_
  refine Xc (λc624=>?_) λc624=>?_
  ·exact(tJF239_14 kv0 kv1).mono tM
  ·refine t_bn (λc625=>?_) λc625=>?_
   ·refine t_bn (λc626=>?_) λc626=>?_
    ·exact(tJF239_14 kv0 kv1).mono tM
    ·refine Xb (tF198) λv21 hv21=>?_
     exact(tJF239_14 kv0 kv1).mono tM
   ·refine Xb (tF198) λv23 hv23=>?_
    exact(tJF239_14 kv0 kv1).mono tM
 ·exact(tJF239_11 kv0 kv0.fo).mono tM
theorem tJF239_33 {v0 v1 v32} (kv0:okG265 v0) (kv1:okG75 v1):Tot (JF239_33 v0 v1 v32) (λr=>okG265 r.1/\True):=by
 refine Xc (λc627=>?_) λc627=>?_
 ·have hel628:okG265 (⟨v0.fJ,v0.fG,ior .i64 v0.fC v1.fp,v1.fp,false,v0.fo⟩:G265):=⟨kv0.fo⟩
  exact tL
 ·exact(tJF239_8 kv1 kv0).mono tM
theorem tJF239_37 {v0 v1 v36} (kv0:okG265 v0) (kv1:okG75 v1):Tot (JF239_37 v0 v1 v36) (λr=>okG265 r.1/\True):=by
 refine Xc (λc629=>?_) λc629=>?_
 ·have hel630:okG265 (⟨v0.fJ,v0.fG,ior .i64 v0.fC v1.fp,v1.fp,false,v0.fo⟩:G265):=⟨kv0.fo⟩
  exact tL
 ·exact(tJF239_8 kv1 kv0).mono tM
theorem tJF239_27 {v0 v1 v26} (kv0:okG265 v0) (kv1:okG75 v1):Tot (JF239_27 v0 v1 v26) (λr=>okG265 r.1/\True):=by
 refine Xc (λc=>Xd ⟨⟨kv0.fo⟩,trivial⟩) λc=>?_
 refine Xb tF198 λv29 _=>?_
 refine t_be (λc=>Xc (λ_=>tJF239_33 kv0 kv1) λ_=>tJF239_33 kv0 kv1) λc=>?_
 refine Xc (λ_=>tJF239_37 kv0 kv1) λ_=>Xc (λ_=>?_) λ_=>tJF239_37 kv0 kv1
 obtain⟨b,eb,_⟩:=tF161 (v0:=⟨v0.fJ,v0.fG,ior .i64 v0.fC v1.fp,v1.fp,false,v0.fo⟩) ⟨kv0.fo⟩
 rw[eb]
 cases b with
 |false=>simp only[Option.bind_some,Bool.not_false,cond_true];exact tJF239_37 kv0 kv1
 |true=>
  have:=F129_pos eb
  simp only[Option.bind_some,Bool.not_true,cond_false]
  exact Xb (t_gshl (by dsimp only at this;omega)) λ_ _=>tJF239_37 kv0 kv1
theorem tJF239_3 {v0 v1 v2} (kv0:okG265 v0) (kv1:okG75 v1):Tot (JF239_3 v0 v1 v2) (λr=>okG265 r.1/\True):=by
 refine Xc (λc631=>?_) λc631=>?_
 ·have hel632:okG265 (⟨v0.fJ,v0.fG,v0.fC,v0.f3,v0.faf,v0.fo⟩:G265):=⟨kv0.fo⟩
  exact tL
 ·refine t_bn (λc633=>?_) λc633=>?_
  ·refine t_bn (λc634=>?_) λc634=>?_
   ·refine Xc (λc635=>?_) λc635=>?_
    ·exact(tJF239_27 kv0 kv1).mono tM
    ·exact(tJF239_27 kv0 kv1).mono tM
   ·exact(tJF239_27 kv0 kv1).mono tM
  ·refine Xc (λc636=>?_) λc636=>?_
   ·have hel637:okG265 (⟨v0.fJ,v0.fG,v0.fC,v0.f3,v0.faf,v0.fo⟩:G265):=⟨kv0.fo⟩
    exact tL
   ·exact(tJF239_8 kv1 kv0).mono tM
theorem tF239 {v0 v1} (kv0:okG265 v0) (kv1:okG75 v1):Tot (F239 v0 v1) (λr=>okG265 r.1/\True):=by
 refine Xc (λc638=>?_) λc638=>?_
 ·exact(tJF239_3 kv0 kv1).mono tM
 ·exact(tJF239_3 kv0 kv1).mono tM
theorem tJF160_18 {v1 v12 v13 v14 v15 v16} {v17:Int} (kv1:okG75 v1) (q0:v17<=9223372036854775807):Tot (JF160_18 v1 v12 v13 v14 v15 v16 v17) (λr=>okG265 r.1/\True):=by
 refine t_bn (λc639=>?_) λc639=>?_
 ·have hel640:okG265 (⟨false,0,0,0,false,0⟩:G265):=⟨tI⟩
  exact tL
 ·have hel641:okG265 (⟨v12,wi (v13+1),v14,v15,v16,v17⟩:G265):=⟨tI⟩
  exact tL
theorem tJF160_11 {v1 v5 v6 v7 v8 v9} {v10:Int} (kv1:okG75 v1) (q0:v10<=9223372036854775807):Tot (JF160_11 v1 v5 v6 v7 v8 v9 v10) (λr=>okG265 r.1/\True):=by
 refine Xc (λc642=>?_) λc642=>?_
 ·refine Xc (λc643=>?_) λc643=>?_
  ·have hel644:okG265 (⟨v5,v6,v7,v8,v9,v10⟩:G265):=⟨tI⟩
   exact tL
  ·exact(tJF160_18 kv1 tI).mono tM
 ·exact(tJF160_18 kv1 tI).mono tM
theorem tF160 {v0 v1} (kv0:okG265 v0) (kv1:okG75 v1):Tot (F160 v0 v1) (λr=>okG265 r.1/\True):=by
 refine t_bn (λc645=>?_) λc645=>?_
 ·refine Xb (tF239 kv0 kv1) λv3 hv3=>?_
  obtain⟨hv3_0,hv3_1⟩:=hv3
  have hel646:okG265 (⟨v3.1.fJ,v3.1.fG,v3.1.fC,v3.1.f3,v3.1.faf,v3.1.fo⟩:G265):=⟨hv3_0.fo⟩
  exact tL
 ·refine t_bn (λc647=>?_) λc647=>?_
  ·refine Xb (tF161 kv0) λv23 hv23=>?_
   refine Xc (λc648=>?_) λc648=>?_
   ·have hel649:okG265 (⟨v0.fJ,v0.fG,v0.fC,v0.f3,v0.faf,v0.fo⟩:G265):=⟨kv0.fo⟩
    exact tL
   ·exact(tJF160_11 kv1 tI).mono tM
  ·exact(tJF160_11 kv1 kv0.fo).mono tM
theorem Ue {v0:G27} {v1} {v7:List G159} {v17} (kv0:okG27 v0) (kl:v7.length+1<=500000000000) (q0:0<ln v0.fc):Tot (Zu v0 v1 v7 v17) (λr=>r.length<=v7.length+1):=by
 have lb650:=(kv0.fc).le
 refine t_bi (Xg (kv0.fc) tI tI) λv19 hv19 ov19=>?_
 refine Xb (Xz kv0 tI) λv26 hv26=>?_
 exact tL
theorem tJF73_1_16 {v0:G27} {v1} {v7:List G159} {v10:Bool} {v11 v12 v13 v14} {v15:Int} (kv0:okG27 v0) (kl:v7.length+1<=500000000000) (q0:v10=true->(0<ln v0.fc)) (q1:v15<=9223372036854775807) (q2:v10=false->(0<ln v0.fc)):Tot (JF73_1_16 v0 v1 v7 v10 v11 v12 v13 v14 v15) (λr=>r.length<=v7.length+1):=by
 refine Xc (λc652=>?_) λc652=>?_
 ·refine t_be (λc653=>?_) λc653=>?_
  ·have qq654:=q0 c652
   exact(Ue kv0 tI tI).mono tM
  ·refine t_bn (λc655=>?_) λc655=>?_
   ·refine Xb (tF161 ⟨tI⟩) λv31 hv31=>?_
    have qq656:=q0 c652
    exact(Ue kv0 tI tI).mono tM
   ·have qq657:=q0 c652
    exact(Ue kv0 tI tI).mono tM
 ·refine t_bn (λc658=>?_) λc658=>?_
  ·refine Xb (tF161 ⟨tI⟩) λv34 hv34=>?_
   have qq659:=q2 c652
   exact(Ue kv0 tI tI).mono tM
  ·have qq660:=q2 c652
   exact(Ue kv0 tI tI).mono tM
theorem tLF73_1_54w {v0 v1} {v7:List G159} {v36 v37 v38 v39 v40 v41 v42} (kv0:okG27 v0) (kl:v7.length+1<=500000000000) (q0:v42<=9223372036854775807) (b0:0<=v36) (b1:v36<=10):Tot (LF73_1_54 v0 v1 v7 v36 v37 v38 v39 v40 v41 v42) (λr=>match r with
  |.inl (i,_,_,_,_,_,p)=>p<=9223372036854775807/\i=v36+1/\v36<10
  |.inr (.inl r)=>r.length<=v7.length+1
  |.inr (.inr (_,_,_,_,_,p))=>p<=9223372036854775807):=by
 have lb:=(kv0.fc).le
 refine t_bd (λc=>?_) λc=>Xd q0
 refine Xb (Xg kv0.fc b0 c) λv56 h56=>?_
 refine Xb (tF160 ⟨q0⟩ h56.1) λv58 h58=>?_
 refine Xc (λ_=>?_) λ_=>?_
 ·exact Xb (Xz kv0 kl) λv66 h66=>Xd h66
 ·exact Xd ⟨h58.1.fo,Xr (by omega) (by omega),by show v36<10;omega⟩
theorem tF73_1 {v0:G27} {v1} {v2:List G159} (kv0:okG27 v0) (kl:v2.length+22<=500000000000) (q0:0<ln v0.fc):Tot (Wv v0 v1 v2) (λr=>r.length<=v2.length+22):=by
 refine Xb (tF131_6 kv0 (by omega)) λv7 h7=>?_
 refine Xc (λ_=>Xd (by omega)) λ_=>?_
 refine Xb (Xe (λ(i,_,_,_,_,_,_)=>i) 10 (by decide) (λ(_,_,_,_,_,_,p)=>p<=9223372036854775807) (T:=λr=>match r with|.inl r=>r.length<=v7.length+1|.inr (_,_,_,_,_,p)=>p<=9223372036854775807) (by decide) (by decide) (by decide) ?_) ?_
 ·rintro⟨i,a,b,c,d,e,p⟩ hI h0 h1
  dsimp only at hI h0 h1 ⊢
  refine(tLF73_1_54w kv0 (by omega) hI h0 h1).mono ?_
  rintro(⟨i,_,_,_,_,_,p⟩|r|⟨_,_,_,_,_,p⟩) h
  ·exact h
  ·exact h
  ·exact h
 ·rintro(r|⟨_,_,_,_,_,p⟩) h
  ·exact Xd (by dsimp only at h ⊢;omega)
  ·exact(tJF73_1_16 kv0 (by omega) (λ_=>q0) h (λ_=>q0)).mono λr hr=>by omega
theorem tF163_1 {v0 v1} (kv0:okG75 v0) (kv1:okG75 v1):Tot (F163_1 v0 v1) (λ_=>True):=by
 refine t_bn (λc661=>?_) λc661=>?_
 ·refine t_bn (λc662=>?_) λc662=>?_
  ·exact tL
  ·exact tL
 ·exact tL
theorem tJF240_1_2:Tot (JF240_1_2 ) (λ_=>True):=by
 exact tL
theorem tLF240_1_9 {v0:Sl G75} {v1} {v3:Int} (kv0:(OkSl okG75 1000) v0) (kv1:okG75 v1) (b0:0<=v3) (b1:v3<=1000):Tot (LF240_1_9 v0 v1 v3) (λr=>match r with|.inl r=>(r=v3+1/\v3<1000)|.inr (.inl r)=>True|.inr (.inr r)=>True):=by
 refine t_bd (λc663=>?_) λc663=>?_
 ·have lc663:=(kv0).le
  refine t_bi (Xg kv0 tI tI) λv11 hv11 ov11=>?_
  refine Xb (tF163_1 hv11 kv1) λv15 hv15=>?_
  refine Xc (λc664=>?_) λc664=>?_
  ·exact tL
  ·exact tL
 ·have lb665:=(kv0).le
  exact tL
theorem tF240_1 {v0:Sl G75} {v1} (kv0:(OkSl okG75 1000) v0) (kv1:okG75 v1):Tot (F240_1 v0 v1) (λ_=>True):=by
 refine Xb (Xe (λv3=>v3) 1000 (by decide) (λv3=>True) (T:=tru) tB tB tZ ?_) ?_
 ·rintro v3 hI h0 h1
  refine(tLF240_1_9 kv0 kv1 h0 h1).mono ?_
  exact tM
 ·rintro(v4|⟨⟩) ho5
  ·try dsimp only at ho5 ⊢
   exact tL
  ·try dsimp only at ho5 ⊢
   exact tJF240_1_2
theorem tF164_1 {v0:Sl G75} {v1} (kv0:(OkSl okG75 1000) v0) (kv1:okG75 v1):Tot (F164_1 v0 v1) (λ_=>True):=by
 refine Xb (tF240_1 kv0 kv1) λv4 hv4=>?_
 exact tL
theorem tF297_1 {v0 v1} (kv0:okG75 v0):Tot (F297_1 v0 v1) (λ_=>True):=by
 exact tL
theorem tJF240_2_2:Tot (JF240_2_2 ) (λ_=>True):=by
 exact tL
theorem tLF240_2_9 {v0:Sl G75} {v1} {v3:Int} (kv0:(OkSl okG75 1000) v0) (b0:0<=v3) (b1:v3<=1000):Tot (LF240_2_9 v0 v1 v3) (λr=>match r with|.inl r=>(r=v3+1/\v3<1000)|.inr (.inl r)=>True|.inr (.inr r)=>True):=by
 refine t_bd (λc667=>?_) λc667=>?_
 ·have lc667:=(kv0).le
  refine t_bi (Xg kv0 tI tI) λv11 hv11 ov11=>?_
  refine Xb (tF297_1 hv11) λv15 hv15=>?_
  refine Xc (λc668=>?_) λc668=>?_
  ·exact tL
  ·exact tL
 ·have lb669:=(kv0).le
  exact tL
theorem tF240_2 {v0:Sl G75} {v1} (kv0:(OkSl okG75 1000) v0):Tot (F240_2 v0 v1) (λ_=>True):=by
 refine Xb (Xe (λv3=>v3) 1000 (by decide) (λv3=>True) (T:=tru) tB tB tZ ?_) ?_
 ·rintro v3 hI h0 h1
  refine(tLF240_2_9 kv0 h0 h1).mono ?_
  exact tM
 ·rintro(v4|⟨⟩) ho5
  ·try dsimp only at ho5 ⊢
   exact tL
  ·try dsimp only at ho5 ⊢
   exact tJF240_2_2
theorem tF242_1 {v0 v1 v2} {v3:List G159} (kv1:okG27 v1) (kl:v3.length+0<=500000000000):Tot (F242_1 v0 v1 v2 v3) (λ_=>True):=by
 refine Xb (tF240_2 (kv1.fc).mono) λv6 hv6=>?_
 exact tL
theorem tF241_1 {v0 v1 v2} {v3:List G159} {v4} (kv1:okG27 v1) (kl:v3.length+0<=500000000000):Tot (F241_1 v0 v1 v2 v3 v4) (λ_=>True):=by
 refine Xb (tF242_1 kv1 tI) λv9 hv9=>?_
 refine Xb (Wk) λv11 hv11=>?_
 exact tL
theorem tJF165_1_19 {v2 v3} {v4:List G159} {v1 v18} (kv2:okG27 v2) (kl:v4.length+0<=500000000000):Tot (JF165_1_19 v2 v3 v4 v1 v18) (λ_=>True):=by
 refine Xc (λc671=>?_) λc671=>?_
 ·refine Xb (tF241_1 kv2 tI) λv26 hv26=>?_
  refine Xc (λc672=>?_) λc672=>?_
  ·refine Xb (tF242_1 kv2 tI) λv33 hv33=>?_
   refine Xb (tF242_1 kv2 tI) λv39 hv39=>?_
   exact tL
  ·exact tL
 ·exact tL
theorem tJF165_1_9 {v2 v3} {v4:List G159} {v1 v0 v8} (kv2:okG27 v2) (kl:v4.length+0<=500000000000):Tot (JF165_1_9 v2 v3 v4 v1 v0 v8) (λ_=>True):=by
 refine Xc (λc673=>?_) λc673=>?_
 ·refine Xb (tF241_1 kv2 tI) λv16 hv16=>?_
  exact tL
 ·refine t_be (λc674=>?_) λc674=>?_
  ·exact tJF165_1_19 kv2 tI
  ·exact tJF165_1_19 kv2 tI
theorem tJF165_1_6 {v0 v2 v3} {v4:List G159} {v1 v5} (kv2:okG27 v2) (kl:v4.length+0<=500000000000):Tot (JF165_1_6 v0 v2 v3 v4 v1 v5) (λ_=>True):=by
 refine Xc (λc675=>?_) λc675=>?_
 ·exact tL
 ·refine t_be (λc676=>?_) λc676=>?_
  ·exact tJF165_1_9 kv2 tI
  ·exact tJF165_1_9 kv2 tI
theorem tF165_1 {v0 v1 v2 v3} {v4:List G159} (kv2:okG27 v2) (kl:v4.length+0<=500000000000):Tot (F165_1 v0 v1 v2 v3 v4) (λ_=>True):=by
 refine t_bd (λc677=>?_) λc677=>?_
 ·refine Xb (tF241_1 kv2 tI) λv49 hv49=>?_
  exact tJF165_1_6 kv2 tI
 ·exact tJF165_1_6 kv2 tI
theorem We {v2:G27} {v0:Int} {v1 v3} {v4:List G159} {v5} (kv2:okG27 v2) (kv1:okG75 v1) (kl:v4.length+0<=500000000000) (q0:0<=v0/\v0<ln v2.fc):Tot (Zv v2 v0 v1 v3 v4 v5) (λ_=>True):=by
 refine Xc (λc=>?_) (λc=>?_)
 ·exact tL
 ·refine Xb (t_gslR (by omega) q0.1 (by simp only[ln]at q0;omega)) λv8 hv8=>?_
  have ho:OkSl okG75 1000 v8:=by
   refine⟨?_,λx hx=>?_⟩
   ·have:=(kv2.fc).le;simp only[ln]at this ⊢;rw[hv8];simp only[List.length_drop,List.length_take];omega
   ·rw[hv8]at hx;exact(kv2.fc).2 x (List.mem_of_mem_take (List.mem_of_mem_drop hx))
  refine Xb (tF164_1 ho kv1) λv12 hv12=>?_
  refine Xc (λc1=>?_) (λc1=>?_)
  ·exact tL
  ·refine Xb (tF165_1 kv2 tI) λv20 hv20=>?_
   exact tL
theorem tF162_1 {v0:Int} {v1} {v2:G27} {v3} {v4:List G159} (kv1:okG75 v1) (kv2:okG27 v2) (kl:v4.length+0<=500000000000) (q0:0<=v0/\v0<ln v2.fc):Tot (F162_1 v0 v1 v2 v3 v4) (λ_=>True):=by
 refine Xb (Wk) λv22 hv22=>?_
 refine Xc (λc678=>?_) λc678=>?_
 ·exact We kv2 kv1 tI tI
 ·refine Xb (Wk) λv25 hv25=>?_
  refine Xc (λc680=>?_) λc680=>?_
  ·exact We kv2 kv1 tI tI
  ·refine t_bn (λc682=>?_) λc682=>?_
   ·refine t_bn (λc683=>?_) λc683=>?_
    ·exact We kv2 kv1 tI tI
    ·exact We kv2 kv1 tI tI
   ·refine t_bn (λc686=>?_) λc686=>?_
    ·refine t_bn (λc687=>?_) λc687=>?_
     ·exact We kv2 kv1 tI tI
     ·exact We kv2 kv1 tI tI
    ·exact We kv2 kv1 tI tI
theorem tLF131_7_11 {v0 v1} {v4:Int} {v5:List G159} (kv0:okG27 v0) (kl:v5.length+1<=500000000000) (b0:0<=v4) (b1:v4<=10):Tot (LF131_7_11 v0 v1 v4 v5) (λr=>match r with|.inl r=>(r.1=v4+1/\v4<10)/\r.2.length<=v5.length+1|.inr r=>r.length<=v5.length+1):=by
 refine t_bd (λc691=>?_) λc691=>?_
 ·have lc691:=(kv0.fc).le
  refine t_bi (Xg (kv0.fc) tI tI) λv13 hv13 ov13=>?_
  refine Xb (tF162_1 hv13 kv0 tI tI) λv20 hv20=>?_
  refine Xb (Xz kv0 tI) λv27 hv27=>?_
  exact tL
 ·have lb692:=(kv0.fc).le
  exact tL
theorem tF131_7 {v0 v1} {v2:List G159} (kv0:okG27 v0) (kl:v2.length+11<=500000000000):Tot (F131_7 v0 v1 v2) (λr=>r.length<=v2.length+11):=by
 refine Xb (Xe (λ(v4,v5)=>v4) 10 (by decide) (λ(v4,v5)=>(v5.length:Int)<=v2.length+0+1*v4) (T:=λr=>r.length<=v2.length+11) tB tB tZ ?_) ?_
 ·rintro⟨v4,v5⟩ hI h0 h1
  try dsimp only at hI h0 h1 ⊢
  refine(tLF131_7_11 kv0 tI h0 h1).mono ?_
  exact tM
 ·rintro v6 ho7
  try dsimp only at ho7 ⊢
  exact tL
theorem tF74_1 {v0 v1} {v2:List G159} (kv0:okG27 v0) (kl:v2.length+11<=500000000000):Tot (Wi v0 v1 v2) (λr=>r.length<=v2.length+11):=by
 refine Xb (tF131_7 kv0 tI) λv7 hv7=>?_
 exact tL
theorem tJF166_7 {v6}:Tot (JF166_7 v6) (λ_=>True):=by
 exact tL
theorem tLF166_15 {v1 v2 v8} {v9:Int} (kv1:okG75 v1) (b0:0<=v9) (b1:v9<=8):Tot (LF166_15 v1 v2 v8 v9) (λr=>match r with|.inl r=>True/\(r.2=v9+1/\v9<8)|.inr r=>True):=by
 refine t_bd (λc694=>?_) λc694=>?_
 ·have lc694:=(kv1.fm).le
  refine t_bi (Xg (kv1.fm) tI tI) λv17 hv17 ov17=>?_
  refine Xc (λc695=>?_) λc695=>?_
  ·exact tL
  ·refine Xb (Wk) λv20 hv20=>?_
   refine Xc (λc696=>?_) λc696=>?_
   ·exact tL
   ·refine Xb (Wk) λv23 hv23=>?_
    refine Xc (λc697=>?_) λc697=>?_
    ·exact tL
    ·refine t_bd (λc698=>?_) λc698=>?_
     ·refine t_bi (Xg (kv1.fm) tI tI) λv27 hv27 ov27=>?_
      exact tL
     ·exact tL
 ·have lb699:=(kv1.fm).le
  exact tL
theorem tJF166_5 {v1 v2 v4} (kv1:okG75 v1):Tot (JF166_5 v1 v2 v4) (λ_=>True):=by
 refine Xb (Xe (λ(v8,v9)=>v9) 8 (by decide) (λ(v8,v9)=>True) (T:=tru) tB tB tZ ?_) ?_
 ·rintro⟨v8,v9⟩ hI h0 h1
  refine(tLF166_15 kv1 h0 h1).mono ?_
  exact tM
 ·rintro v10 ho11
  exact tJF166_7
theorem tF166 {v0 v1} (kv1:okG75 v1):Tot (F166 v0 v1) (λ_=>True):=by
 refine Xb (tF99 kv1) λv2 hv2=>?_
 refine t_bn (λc701=>?_) λc701=>?_
 ·refine Xb (Wk) λv30 hv30=>?_
  refine Xc (λc702=>?_) λc702=>?_
  ·exact tJF166_5 kv1
  ·refine Xb (Wk) λv33 hv33=>?_
   exact tJF166_5 kv1
 ·refine Xb (Wk) λv35 hv35=>?_
  exact tJF166_5 kv1
theorem tLF131_8_11 {v0 v1} {v4:Int} {v5:List G159} (kv0:okG27 v0) (kl:v5.length+1<=500000000000) (b0:0<=v4) (b1:v4<=10):Tot (Uo v0 v1 v4 v5) (λr=>match r with|.inl r=>(r.1=v4+1/\v4<10)/\r.2.length<=v5.length+1|.inr r=>r.length<=v5.length+1):=by
 refine t_bd (λc703=>?_) λc703=>?_
 ·have lc703:=(kv0.fc).le
  refine t_bi (Xg (kv0.fc) tI tI) λv13 hv13 ov13=>?_
  refine Xb (tF166 hv13) λv15 hv15=>?_
  refine Xb (Xz kv0 tI) λv22 hv22=>?_
  exact tL
 ·have lb704:=(kv0.fc).le
  exact tL
theorem tF131_8 {v0 v1} {v2:List G159} (kv0:okG27 v0) (kl:v2.length+11<=500000000000):Tot (F131_8 v0 v1 v2) (λr=>r.length<=v2.length+11):=by
 refine Xb (Xe (λ(v4,v5)=>v4) 10 (by decide) (λ(v4,v5)=>(v5.length:Int)<=v2.length+0+1*v4) (T:=λr=>r.length<=v2.length+11) tB tB tZ ?_) ?_
 ·rintro⟨v4,v5⟩ hI h0 h1
  try dsimp only at hI h0 h1 ⊢
  refine(tLF131_8_11 kv0 tI h0 h1).mono ?_
  exact tM
 ·rintro v6 ho7
  try dsimp only at ho7 ⊢
  exact tL
theorem tF75_1 {v0 v1} {v2:List G159} (kv0:okG27 v0) (kl:v2.length+11<=500000000000):Tot (Zr v0 v1 v2) (λr=>r.length<=v2.length+11):=by
 refine Xb (tF131_8 kv0 tI) λv7 hv7=>?_
 exact tL
theorem tJF167_1_14 {v8:G27} {v3:Int} {v11:G236×Bool} {v13:Bool} (kv8:okG27 v8) (q0:v13=false->(0<=v3/\v3<ln v8.fc)/\0<=v11.1.fy/\v11.1.fy<ln v8.fc):Tot (Uq v8 v3 v11 v13) (λ_=>True):=by
 refine Xc (λ_=>Xd trivial) λc=>?_
 obtain⟨a,b⟩:=q0 c
 refine Xb (Xg kv8.fc a.1 a.2) λv16 _=>?_
 refine Xb (Xg kv8.fc b.1 b.2) λv18 _=>?_
 repeat' (first|exact Xd trivial|refine Xc (λ_=>?_) λ_=>?_)
theorem F36_pos {s:G27} {m st v:Int} {r:Sl G147} (h:F226 s m st v=some r) (hr:0<ln r):∃ M C V,gx (Sl.es s.fc) m=some M/\gx (Sl.es M.fe) st=some C/\gx (Sl.es C.ff) v=some V/\r=V.fg:=by
 have no:∀ {b:Bool},Vh s m st v b=some r->∃ M C V,gx (Sl.es s.fc) m=some M/\gx (Sl.es M.fe) st=some C/\gx (Sl.es C.ff) v=some V/\r=V.fg:=by
  intro b h
  unfold Vh at h
  rcases cor h with⟨_,h⟩|⟨_,h⟩
  ·cases h
   simp[ln,Sl.es]at hr
  ·obtain⟨M,h1,h⟩:=Xa h
   obtain⟨C,h2,h⟩:=Xa h
   obtain⟨V,h3,h⟩:=Xa h
   cases h
   exact⟨M,C,V,h1,h2,h3,rfl⟩
 rcases cor h with⟨_,h⟩|⟨_,h⟩
 ·exact no h
 rcases cor h with⟨_,h⟩|⟨_,h⟩
 ·exact no h
 rcases cor h with⟨_,h⟩|⟨_,h⟩
 ·exact no h
 obtain⟨_,_,h⟩:=Xa h
 rcases cor h with⟨_,h⟩|⟨_,h⟩
 ·exact no h
 rcases cor h with⟨_,h⟩|⟨_,h⟩
 ·exact no h
 obtain⟨_,_,h⟩:=Xa h
 obtain⟨_,_,h⟩:=Xa h
 exact no h
theorem F20_true {s:G27} {p q:G236} (h:F152 s p=some (q,true)):(0<=p.fy/\p.fy<ln s.fc)/\0<=q.fy/\q.fy<ln s.fc:=by
 obtain⟨z,hz,h⟩:=Xa h
 rcases cor h with⟨_,h⟩|⟨c,h⟩
 ·cases h
 have hz0:z=0:=by simpa using c
 subst hz0
 obtain⟨e0,e1⟩:=F34_zero hz
 obtain⟨v5,h5,h⟩:=Xa h
 have l5:=e1 v5 h5
 obtain⟨M,C,V,g1,_⟩:=F36_pos h5 (by omega)
 have g1:=Yr g1
 rcases cor h with⟨_,h⟩|⟨_,h⟩
 ·obtain⟨v8,h8,h⟩:=Xa h
  cases h8
  cases h
  exact⟨g1,g1⟩
 ·obtain⟨v10,h10,h⟩:=Xa h
  rcases cor h with⟨c2,h⟩|⟨_,h⟩
  ·obtain⟨v13,h13,h⟩:=Xa h
   cases h13
   cases h
   obtain⟨M2,C2,V2,g2,_⟩:=F36_pos h10 (of_decide_eq_true c2)
   exact⟨g1,Yr g2⟩
  ·cases h
theorem tF167_1 {v0 v1 v2 v3 v4 v5 v6 v7 v8 v9} {v10:List G159} (kv7:okG147 v7) (kv8:okG27 v8) (kl:v10.length+0<=500000000000):Tot (F167_1 v0 v1 v2 v3 v4 v5 v6 v7 v8 v9 v10) (λ_=>True):=by
 unfold F167_1
 obtain⟨⟨q,b⟩,eb,_⟩:=tF152 (v0:=v8) (v1:=⟨v0,v1,v2,v3,v4,v5,v6⟩) kv8
 rw[eb]
 simp only[Option.bind_some]
 cases b with
 |false=>simp only[Bool.not_false,cond_true];exact tJF167_1_14 (v13:=true) kv8 (by intro h;cases h)
 |true=>
  have q:=F20_true eb
  simp only[Bool.not_true,cond_false]
  refine Xb (tF151 kv7) λv26 _=>?_
  exact Xc (λ_=>tJF167_1_14 (v13:=true) kv8 (by intro h;cases h)) λ_=>tJF167_1_14 kv8 λ_=>q
theorem tJF140_5_14 {v4:Int} {v13:List G159} (kl:v13.length+0<=500000000000) (b0:0<=v4) (b1:v4<10):Tot (Ut v4 v13) (λr=>match r with|.inl r=>(r.1=v4+1/\v4<10)/\r.2.length<=v13.length+0|.inr r=>r.length<=v13.length+0):=by
 exact tL
theorem tJF140_5_27 {v17:Int} {v26:List G159} (kl:v26.length+0<=500000000000) (b0:0<=v17) (b1:v17<5):Tot (Us v17 v26) (λr=>match r with|.inl r=>(r.1=v17+1/\v17<5)/\r.2.length<=v26.length+0|.inr r=>r.length<=v26.length+0):=by
 exact tL
theorem tJF140_5_40 {v30:Int} {v39:List G159} (kl:v39.length+0<=500000000000) (b0:0<=v30) (b1:v30<3):Tot (Ur v30 v39) (λr=>match r with|.inl r=>(r.1=v30+1/\v30<3)/\r.2.length<=v39.length+0|.inr r=>r.length<=v39.length+0):=by
 exact tL
theorem tLF140_5_50 {v41 v17 v4 v30 v0 v1} {v43:Int} {v44:List G159} (kv41:okG100 v41) (kv0:okG27 v0) (kl:v44.length+1<=500000000000) (b0:0<=v43) (b1:v43<=1000):Tot (LF140_5_50 v41 v17 v4 v30 v0 v1 v43 v44) (λr=>match r with|.inl r=>(r.1=v43+1/\v43<1000)/\r.2.length<=v44.length+1|.inr r=>r.length<=v44.length+1):=by
 refine t_bd (λc706=>?_) λc706=>?_
 ·have lc706:=(kv41.fg).le
  refine t_bi (Xg (kv41.fg) tI tI) λv52 hv52 ov52=>?_
  refine Xb (tF167_1 hv52 kv0 tI) λv65 hv65=>?_
  refine Xb (Xz kv0 tI) λv72 hv72=>?_
  exact tL
 ·have lb707:=(kv41.fg).le
  exact tL
theorem tLF140_5_37 {v28 v17 v4 v0 v1} {v30:Int} {v31:List G159} (kv28:okG95 v28) (kv0:okG27 v0) (kl:v31.length+1001<=500000000000) (b0:0<=v30) (b1:v30<=3):Tot (LF140_5_37 v28 v17 v4 v0 v1 v30 v31) (λr=>match r with|.inl r=>(r.1=v30+1/\v30<3)/\r.2.length<=v31.length+1001|.inr r=>r.length<=v31.length+1001):=by
 refine t_bd (λc708=>?_) λc708=>?_
 ·have lc708:=(kv28.ff).le
  refine t_bi (Xg (kv28.ff) tI tI) λv41 hv41 ov41=>?_
  refine Xb (Xe (λ(v43,v44)=>v43) 1000 (by decide) (λ(v43,v44)=>(v44.length:Int)<=v31.length+0+1*v43) (T:=λr=>r.length<=v31.length+1001) tB tB tZ ?_) ?_
  ·rintro⟨v43,v44⟩ hI h0 h1
   try dsimp only at hI h0 h1 ⊢
   refine(tLF140_5_50 hv41 kv0 tI h0 h1).mono ?_
   exact tM
  ·rintro v45 ho46
   try dsimp only at ho46 ⊢
   exact(tJF140_5_40 tI tI tI).mono tM
 ·have lb710:=(kv28.ff).le
  exact tL
theorem tLF140_5_24 {v15 v4 v0 v1} {v17:Int} {v18:List G159} (kv15:okG75 v15) (kv0:okG27 v0) (kl:v18.length+4004<=500000000000) (b0:0<=v17) (b1:v17<=5):Tot (LF140_5_24 v15 v4 v0 v1 v17 v18) (λr=>match r with|.inl r=>(r.1=v17+1/\v17<5)/\r.2.length<=v18.length+4004|.inr r=>r.length<=v18.length+4004):=by
 refine t_bd (λc711=>?_) λc711=>?_
 ·have lc711:=(kv15.fe).le
  refine t_bi (Xg (kv15.fe) tI tI) λv28 hv28 ov28=>?_
  refine Xb (Xe (λ(v30,v31)=>v30) 3 (by decide) (λ(v30,v31)=>(v31.length:Int)<=v18.length+0+1001*v30) (T:=λr=>r.length<=v18.length+4004) tB tB tZ ?_) ?_
  ·rintro⟨v30,v31⟩ hI h0 h1
   try dsimp only at hI h0 h1 ⊢
   refine(tLF140_5_37 hv28 kv0 tI h0 h1).mono ?_
   exact tM
  ·rintro v32 ho33
   try dsimp only at ho33 ⊢
   exact(tJF140_5_27 tI tI tI).mono tM
 ·have lb713:=(kv15.fe).le
  exact tL
theorem tLF140_5_11 {v0 v1} {v4:Int} {v5:List G159} (kv0:okG27 v0) (kl:v5.length+24024<=500000000000) (b0:0<=v4) (b1:v4<=10):Tot (LF140_5_11 v0 v1 v4 v5) (λr=>match r with|.inl r=>(r.1=v4+1/\v4<10)/\r.2.length<=v5.length+24024|.inr r=>r.length<=v5.length+24024):=by
 refine t_bd (λc714=>?_) λc714=>?_
 ·have lc714:=(kv0.fc).le
  refine t_bi (Xg (kv0.fc) tI tI) λv15 hv15 ov15=>?_
  refine Xb (Xe (λ(v17,v18)=>v17) 5 (by decide) (λ(v17,v18)=>(v18.length:Int)<=v5.length+0+4004*v17) (T:=λr=>r.length<=v5.length+24024) tB tB tZ ?_) ?_
  ·rintro⟨v17,v18⟩ hI h0 h1
   try dsimp only at hI h0 h1 ⊢
   refine(tLF140_5_24 hv15 kv0 tI h0 h1).mono ?_
   exact tM
  ·rintro v19 ho20
   try dsimp only at ho20 ⊢
   exact(tJF140_5_14 tI tI tI).mono tM
 ·have lb716:=(kv0.fc).le
  exact tL
theorem tF140_5 {v0 v1} {v2:List G159} (kv0:okG27 v0) (kl:v2.length+264264<=500000000000):Tot (F140_5 v0 v1 v2) (λr=>r.length<=v2.length+264264):=by
 refine Xb (Xe (λ(v4,v5)=>v4) 10 (by decide) (λ(v4,v5)=>(v5.length:Int)<=v2.length+0+24024*v4) (T:=λr=>r.length<=v2.length+264264) tB tB tZ ?_) ?_
 ·rintro⟨v4,v5⟩ hI h0 h1
  try dsimp only at hI h0 h1 ⊢
  refine(tLF140_5_11 kv0 tI h0 h1).mono ?_
  exact tM
 ·rintro v6 ho7
  try dsimp only at ho7 ⊢
  exact tL
theorem tF76_1 {v0 v1} {v2:List G159} (kv0:okG27 v0) (kl:v2.length+264264<=500000000000):Tot (Zw v0 v1 v2) (λr=>r.length<=v2.length+264264):=by
 refine Xb (tF140_5 kv0 tI) λv7 hv7=>?_
 exact tL
theorem Ve {v1} {v2:List G159} (kl:v2.length+0<=500000000000):Tot (Zy v1 v2) (λr=>ln r<=v2.length+0):=by
 exact tL
theorem tJF29_117 {v114:List G159} {v0 v116} (kv0:okG27 v0) (kl:v114.length+264264<=500000000000):Tot (Ws v114 v0 v116) (λr=>ln r<=v114.length+264264):=by
 refine Xc (λc718=>?_) λc718=>?_
 ·exact(Ve tI).mono tM
 ·refine Xb (tF76_1 kv0 tI) λv122 hv122=>?_
  exact(Ve tI).mono tM
theorem tJF29_109 {v106:List G159} {v0 v108} (kv0:okG27 v0) (kl:v106.length+264275<=500000000000):Tot (Wt v106 v0 v108) (λr=>ln r<=v106.length+264275):=by
 refine Xc (λc719=>?_) λc719=>?_
 ·exact(Ve tI).mono tM
 ·refine Xb (tF75_1 kv0 tI) λv114 hv114=>?_
  refine t_bd (λc720=>?_) λc720=>?_
  ·simp only[lnl]at c720
   refine t_bi (t_gxL tI tI) λv125 hv125 ov125=>?_
   exact(tJF29_117 kv0 tI).mono tM
  ·simp only[lnl]at c720
   exact(tJF29_117 kv0 tI).mono tM
theorem tJF29_101 {v98:List G159} {v0 v100} (kv0:okG27 v0) (kl:v98.length+264286<=500000000000):Tot (Wu v98 v0 v100) (λr=>ln r<=v98.length+264286):=by
 refine Xc (λc721=>?_) λc721=>?_
 ·exact(Ve tI).mono tM
 ·refine Xb (tF74_1 kv0 tI) λv106 hv106=>?_
  refine t_bd (λc722=>?_) λc722=>?_
  ·simp only[lnl]at c722
   refine t_bi (t_gxL tI tI) λv128 hv128 ov128=>?_
   exact(tJF29_109 kv0 tI).mono tM
  ·simp only[lnl]at c722
   exact(tJF29_109 kv0 tI).mono tM
theorem tJF29_93 {v90:List G159} {v0:G27} {v92:Bool} (kv0:okG27 v0) (kl:v90.length+264308<=500000000000) (q0:v92=false->(0<ln v0.fc)):Tot (Vt v90 v0 v92) (λr=>ln r<=v90.length+264308):=by
 refine Xc (λc723=>?_) λc723=>?_
 ·exact(Ve tI).mono tM
 ·have qq724:=q0 c723
  refine Xb (tF73_1 kv0 tI tI) λv98 hv98=>?_
  refine t_bd (λc725=>?_) λc725=>?_
  ·simp only[lnl]at c725
   refine t_bi (t_gxL tI tI) λv131 hv131 ov131=>?_
   exact(tJF29_101 kv0 tI).mono tM
  ·simp only[lnl]at c725
   exact(tJF29_101 kv0 tI).mono tM
theorem tJF29_85 {v82:List G159} {v0:G27} {v84:Bool} (kv0:okG27 v0) (kl:v82.length+264319<=500000000000) (q0:v84=false->(0<ln v0.fc)):Tot (Vu v82 v0 v84) (λr=>ln r<=v82.length+264319):=by
 refine Xc (λc726=>?_) λc726=>?_
 ·exact(Ve tI).mono tM
 ·refine Xb (tF72_1 kv0 tI) λv90 hv90=>?_
  refine t_bd (λc727=>?_) λc727=>?_
  ·simp only[lnl]at c727
   refine t_bi (t_gxL tI tI) λv134 hv134 ov134=>?_
   have qq729:=q0 c726
   exact(tJF29_93 kv0 tI (by intro g728;replace g728:=of_decide_eq_false g728;exact tI)).mono tM
  ·simp only[lnl]at c727
   have qq731:=q0 c726
   exact(tJF29_93 kv0 tI (by intro g730;exact tI)).mono tM
theorem tJF29_77 {v74:List G159} {v0:G27} {v76:Bool} (kv0:okG27 v0) (kl:v74.length+264330<=500000000000) (q0:v76=false->(0<ln v0.fc)):Tot (Vv v74 v0 v76) (λr=>ln r<=v74.length+264330):=by
 refine Xc (λc732=>?_) λc732=>?_
 ·exact(Ve tI).mono tM
 ·refine Xb (tF71_1 kv0 tI) λv82 hv82=>?_
  refine t_bd (λc733=>?_) λc733=>?_
  ·simp only[lnl]at c733
   refine t_bi (t_gxL tI tI) λv137 hv137 ov137=>?_
   have qq735:=q0 c732
   exact(tJF29_85 kv0 tI (by intro g734;replace g734:=of_decide_eq_false g734;exact tI)).mono tM
  ·simp only[lnl]at c733
   have qq737:=q0 c732
   exact(tJF29_85 kv0 tI (by intro g736;exact tI)).mono tM
theorem tJF29_69 {v66:List G159} {v0:G27} {v68:Bool} (kv0:okG27 v0) (kl:v66.length+528594<=500000000000) (q0:v68=false->(0<ln v0.fc)):Tot (Vw v66 v0 v68) (λr=>ln r<=v66.length+528594):=by
 refine Xc (λc738=>?_) λc738=>?_
 ·exact(Ve tI).mono tM
 ·refine Xb (tF70_1 kv0 tI) λv74 hv74=>?_
  refine t_bd (λc739=>?_) λc739=>?_
  ·simp only[lnl]at c739
   refine t_bi (t_gxL tI tI) λv140 hv140 ov140=>?_
   have qq741:=q0 c738
   exact(tJF29_77 kv0 tI (by intro g740;replace g740:=of_decide_eq_false g740;exact tI)).mono tM
  ·simp only[lnl]at c739
   have qq743:=q0 c738
   exact(tJF29_77 kv0 tI (by intro g742;exact tI)).mono tM
theorem tJF29_61 {v58:List G159} {v0:G27} {v60:Bool} (kv0:okG27 v0) (kl:v58.length+792858<=500000000000) (q0:v60=false->(0<ln v0.fc)):Tot (Vx v58 v0 v60) (λr=>ln r<=v58.length+792858):=by
 refine Xc (λc744=>?_) λc744=>?_
 ·exact(Ve tI).mono tM
 ·refine Xb (tF69_1 kv0 tI) λv66 hv66=>?_
  refine t_bd (λc745=>?_) λc745=>?_
  ·simp only[lnl]at c745
   refine t_bi (t_gxL tI tI) λv143 hv143 ov143=>?_
   have qq747:=q0 c744
   exact(tJF29_69 kv0 tI (by intro g746;replace g746:=of_decide_eq_false g746;exact tI)).mono tM
  ·simp only[lnl]at c745
   have qq749:=q0 c744
   exact(tJF29_69 kv0 tI (by intro g748;exact tI)).mono tM
theorem tJF29_54 {v0:G27} {v52:List G159} (kv0:okG27 v0) (kl:v52.length+1057122<=500000000000) (q0:0<ln v0.fc):Tot (JF29_54 v0 v52) (λr=>ln r<=v52.length+1057122):=by
 refine Xb (tF68_1 kv0 tI) λv58 hv58=>?_
 refine t_bd (λc750=>?_) λc750=>?_
 ·simp only[lnl]at c750
  refine t_bi (t_gxL tI tI) λv146 hv146 ov146=>?_
  exact(tJF29_61 kv0 tI (by intro g751;replace g751:=of_decide_eq_false g751;exact tI)).mono tM
 ·simp only[lnl]at c750
  exact(tJF29_61 kv0 tI (by intro g753;exact tI)).mono tM
theorem tJF29_48 {v0:G27} {v46:List G159} (kv0:okG27 v0) (kl:v46.length+1321386<=500000000000) (q0:0<ln v0.fc):Tot (JF29_48 v0 v46) (λr=>ln r<=v46.length+1321386):=by
 refine Xb (tF67_1 kv0 tI) λv52 hv52=>?_
 refine t_bd (λc755=>?_) λc755=>?_
 ·simp only[lnl]at c755
  exact(tJF29_54 kv0 tI tI).mono tM
 ·simp only[lnl]at c755
  exact(tJF29_54 kv0 tI tI).mono tM
theorem tJF29_42 {v0:G27} {v40:List G159} (kv0:okG27 v0) (kl:v40.length+1321397<=500000000000) (q0:0<ln v0.fc):Tot (JF29_42 v0 v40) (λr=>ln r<=v40.length+1321397):=by
 refine Xb (tF66_1 kv0 tI) λv46 hv46=>?_
 refine t_bd (λc758=>?_) λc758=>?_
 ·simp only[lnl]at c758
  exact(tJF29_48 kv0 tI tI).mono tM
 ·simp only[lnl]at c758
  exact(tJF29_48 kv0 tI tI).mono tM
theorem tJF29_36 {v0:G27} {v34:List G159} (kv0:okG27 v0) (kl:v34.length+1321408<=500000000000) (q0:0<ln v0.fc):Tot (JF29_36 v0 v34) (λr=>ln r<=v34.length+1321408):=by
 refine Xb (tF65_1 kv0 tI) λv40 hv40=>?_
 refine t_bd (λc761=>?_) λc761=>?_
 ·simp only[lnl]at c761
  exact(tJF29_42 kv0 tI tI).mono tM
 ·simp only[lnl]at c761
  exact(tJF29_42 kv0 tI tI).mono tM
theorem tJF29_30 {v0:G27} {v28:List G159} (kv0:okG27 v0) (kl:v28.length+1321419<=500000000000) (q0:0<ln v0.fc):Tot (JF29_30 v0 v28) (λr=>ln r<=v28.length+1321419):=by
 refine Xb (tF64_1 kv0 tI) λv34 hv34=>?_
 refine t_bd (λc764=>?_) λc764=>?_
 ·simp only[lnl]at c764
  exact(tJF29_36 kv0 tI tI).mono tM
 ·simp only[lnl]at c764
  exact(tJF29_36 kv0 tI tI).mono tM
theorem tJF29_24 {v0:G27} {v22:List G159} (kv0:okG27 v0) (kl:v22.length+1321460<=500000000000) (q0:0<ln v0.fc):Tot (JF29_24 v0 v22) (λr=>ln r<=v22.length+1321460):=by
 refine Xb (tF63_1 kv0 tI) λv28 hv28=>?_
 refine t_bd (λc767=>?_) λc767=>?_
 ·simp only[lnl]at c767
  exact(tJF29_30 kv0 tI tI).mono tM
 ·simp only[lnl]at c767
  exact(tJF29_30 kv0 tI tI).mono tM
theorem tJF29_18 {v0:G27} {v16:List G159} (kv0:okG27 v0) (kl:v16.length+1321471<=500000000000) (q0:0<ln v0.fc):Tot (JF29_18 v0 v16) (λr=>ln r<=v16.length+1321471):=by
 refine Xb (tF62_1 kv0 tI) λv22 hv22=>?_
 refine t_bd (λc770=>?_) λc770=>?_
 ·simp only[lnl]at c770
  exact(tJF29_24 kv0 tI tI).mono tM
 ·simp only[lnl]at c770
  exact(tJF29_24 kv0 tI tI).mono tM
theorem tJF29_11 {v8:List G159} {v0:G27} {v10:Bool} (kv0:okG27 v0) (kl:v8.length+2321473<=500000000000) (q0:v10=false->(0<ln v0.fc)):Tot (JF29_11 v8 v0 v10) (λr=>ln r<=v8.length+2321473):=by
 refine Xc (λc773=>?_) λc773=>?_
 ·exact(Ve tI).mono tM
 ·refine Xb (tF61_1 kv0 tI) λv16 hv16=>?_
  refine t_bd (λc774=>?_) λc774=>?_
  ·simp only[lnl]at c774
   have qq775:=q0 c773
   exact(tJF29_18 kv0 tI tI).mono tM
  ·simp only[lnl]at c774
   have qq776:=q0 c773
   exact(tJF29_18 kv0 tI tI).mono tM
theorem tJF29_4 {v0:G27} (kv0:okG27 v0) (q0:0<ln v0.fc):Tot (JF29_4 v0) (λr=>ln r<=2321490):=by
 refine Xb (tF60_1 kv0 tI) λv8 hv8=>?_
 simp only[List.length_nil,Nat.zero_add]at hv8
 refine t_bd (λc777=>?_) λc777=>?_
 ·simp only[lnl]at c777
  exact(tJF29_11 kv0 tI (by intros;simp_all only [Bool.false_eq_true,Bool.true_eq_false,reduceCtorEq])).mono tM
 ·simp only[lnl]at c777
  exact(tJF29_11 kv0 tI (by intro g778;exact tI)).mono tM
theorem F99_2_pos {a b s r l out} (h:Vd true a b s r l=some out):0<out.length:=by
 unfold Vd at h
 obtain⟨q,hq,h⟩:=Xa h
 cases h
 unfold gapp at hq
 split at hq
 ·cases hq
  simp only[List.length_append,Sl.es,List.length_cons]
  omega
 ·cases hq
theorem F61_1_pos {s r l out} (h:F60_1 s r l=some out) (hm:ln s.fc=0):0<out.length:=by
 obtain⟨_,_,h⟩:=Xa h
 obtain⟨_,_,h⟩:=Xa h
 have pos:∀ {l out:List G159},((Vd true 0 0 s r l).bind λv=>some v)=some out->0<out.length:=λh=>by
  obtain⟨v,hv,h⟩:=Xa h
  cases h
  exact F99_2_pos hv
 obtain⟨_,_,h⟩:=Xa h
 rcases cor h with⟨_,h⟩|⟨_,h⟩
 ·exact pos h
 obtain⟨_,_,h⟩:=Xa h
 rcases cor h with⟨_,h⟩|⟨_,h⟩
 ·exact pos h
 obtain⟨v30,h30,h⟩:=Xa h
 rw[hm]at h30
 rcases cor h with⟨_,h⟩|⟨c,h⟩
 ·exact pos h
 ·have e:F125 0 1 1024=some false:=rfl
  cases h30.symm.trans e
  cases c
theorem tF29 {v0} (kv0:okG27 v0):Tot (F29 v0) (λr=>ln r<=10000000):=by
 by_cases hm:0<ln v0.fc
 ·exact Xc (λ_=>(tJF29_4 kv0 hm).mono λr h=>by omega) λ_=>(tJF29_4 kv0 hm).mono λr h=>by omega
 ·have h4:Tot (JF29_4 v0) (λr=>ln r<=10000000):=by
   unfold JF29_4
   obtain⟨v8,e8,h8⟩:=tF60_1 (v1:=1) (v2:=[]) kv0 (by decide)
   have hp:=F61_1_pos e8 (by have:=(kv0.fc).le;omega)
   rw[e8]
   simp only[Option.bind_some]
   refine t_bd (λ_=>?_) λc=>absurd (show lnl v8>0 by simp only[lnl];omega) c
   show Tot (Zy 2 v8) _
   unfold Zy
   refine Xd ?_
   rw[ln_mk]
   simp only[List.length_nil]at h8
   omega
  exact Xc (λ_=>h4) λ_=>h4
end Go.Proofs.YtibndgdocbbbeaaGreat
