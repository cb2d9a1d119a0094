/- A part of the proof. -/
import Derived.Test.YtnjmaohblihppaaGreatDoorFRQ
import Derived.Test.YtnjmaohblihppaaGreatDoorTTa
import Derived.Test.YtnjmaohblihppaaGreatDoorFL6
import Derived.Test.YtnjmaohblihppaaGreatDoorFS
set_option linter.all false
namespace Go.Proofs.YtnjmaohblihppaaGreatDoor
open Go.PE
set_option maxRecDepth 100000
theorem xF99_2 {v0 v1 v2 v3 v4 v5 r} (h:F99_2 v0 v1 v2 v3 v4 v5=some r):Ex v4 v5 r:=by
 unfold F99_2 at h
 rcases cor h with ⟨_,h⟩|⟨_,h⟩
 ·obtain⟨v8,h2,h⟩:=Xa h
  cases h
  exact(gapp_ex h2)
 ·cases h
  exact Ex.refl
theorem xJF62_1_7 {v0 v1 v4 v6 r} (h:JF62_1_7 v0 v1 v4 v6=some r):Ex v1 v4 r:=by
 unfold JF62_1_7 at h
 obtain⟨v14,h27,h⟩:=Xa h
 cases h
 exact(xF99_2 h27)
theorem xJF62_1_5 {v0 v1 v4 r} (h:Zj v0 v1 v4=some r):Ex v1 v4 r:=by
 unfold Zj at h
 obtain⟨o19,ho19,h⟩:=Xa h
 generalize o19=v18 at *
 exact xJF62_1_7 h
theorem xLF62_1_44 {v34 v0 v1 v36 v37 v38 r} (h:Vv v34 v0 v1 v36 v37 v38=some r):sE (λr=>Ex v1 v37 r.2.1) (λr=>Ex v1 v37 r) r:=by
 unfold Vv at h
 rcases cor h with ⟨_,h⟩|⟨_,h⟩
 ·obtain⟨_,_,h⟩:=Xa h
  obtain⟨_,_,h⟩:=Xa h
  rcases cor h with ⟨_,h⟩|⟨_,h⟩
  ·obtain⟨v56,h31,h⟩:=Xa h
   cases h
   exact(Yo h31)
  ·obtain⟨_,_,h⟩:=Xa h
   rcases cor h with ⟨_,h⟩|⟨_,h⟩
   ·obtain⟨v66,h33,h⟩:=Xa h
    cases h
    exact(Yo h33)
   ·obtain⟨_,_,h⟩:=Xa h
    obtain⟨v75,h35,h⟩:=Xa h
    cases h
    exact(Yo h35)
 ·cases h
  exact Ex.refl
theorem xF62_1 {v0 v1 v2 r} (h:F62_1 v0 v1 v2=some r):Ex v1 v2 r:=by
 unfold F62_1 at h
 obtain⟨_,_,h⟩:=Xa h
 obtain⟨o40,ho40,h⟩:=Xa h
 have k37:=Xl (I:=λs=>Ex v1 v2 s.2.1) (T:=λo=>Ex v1 v2 o) ho40 (Ex.refl) (by
  rintro⟨v36,v37,v38⟩ o hI h
  have k:=xLF62_1_44 h
  rcases o with o|o
  ·exact hI.tr k
  ·exact hI.tr k)
 generalize o40=v39 at *
 have k38:=xJF62_1_5 h
 exact(k37.tr k38)
end Go.Proofs.YtnjmaohblihppaaGreatDoor
namespace Go.Proofs.YtnjmaohblihppaaGreatDoor
open Go.PE Go.RowKit
set_option maxRecDepth 100000
theorem tF13 {v0} (kv0:okG27 v0):Tot (F13 v0) (λ_=>True):=by
 unfold F13
 refine Xb (tF32 kv0) λv1 hv1=>?_
 exact tL
end Go.Proofs.YtnjmaohblihppaaGreatDoor
namespace Go.Proofs.YtnjmaohblihppaaGreatDoor
open Go.PE
set_option maxRecDepth 100000
theorem Ex.nil {R:Int} {l:List G35} (h:Ex R l []):l=[]:=by
 obtain⟨t,e,_⟩:=h
 exact(List.append_eq_nil_iff.1 e.symm).1
theorem ccc {α:Type} {c:Bool} {x:Option α} {r:α} (h:(bif c then x else x)=some r):x=some r:=by cases c<;>exact h
def Pf (l m:List G35):Prop:=m=[]->l=[]
theorem Pf.ex {R:Int} {l m n:List G35} (h:Ex R l m) (k:Pf m n):Pf l n:=λe=>by
 have:=k e
 subst this
 exact h.nil
theorem p117 {v s b r} (h:Zk v s b=some r):Pf v (Sl.es r):=by
 unfold Zk at h
 rcases cor h with ⟨_,h⟩|⟨_,h⟩
 ·rw[q3 h];exact id
 ·obtain⟨u,hu,h⟩:=Xa h
  refine .ex (xF77_1 hu) ?_
  rw[q3 h];exact id
theorem p109 {v s b r} (h:Zl v s b=some r):Pf v (Sl.es r):=by
 unfold Zl at h
 rcases cor h with ⟨_,h⟩|⟨_,h⟩
 ·rw[q3 h];exact id
 ·obtain⟨u,hu,h⟩:=Xa h
  refine .ex (xF76_1 hu) ?_
  rcases cor h with ⟨_,h⟩|⟨_,h⟩
  ·obtain⟨_,_,h⟩:=Xa h
   exact p117 h
  ·exact p117 h
theorem p101 {v s b r} (h:Zm v s b=some r):Pf v (Sl.es r):=by
 unfold Zm at h
 rcases cor h with ⟨_,h⟩|⟨_,h⟩
 ·rw[q3 h];exact id
 ·obtain⟨u,hu,h⟩:=Xa h
  refine .ex (xF75_1 hu) ?_
  rcases cor h with ⟨_,h⟩|⟨_,h⟩
  ·obtain⟨_,_,h⟩:=Xa h
   exact p109 h
  ·exact p109 h
theorem p93 {v s b r} (h:Wu v s b=some r):Pf v (Sl.es r):=by
 unfold Wu at h
 rcases cor h with ⟨_,h⟩|⟨_,h⟩
 ·rw[q3 h];exact id
 ·obtain⟨u,hu,h⟩:=Xa h
  refine .ex (xF74_1 hu) ?_
  rcases cor h with ⟨_,h⟩|⟨_,h⟩
  ·obtain⟨_,_,h⟩:=Xa h
   exact p101 h
  ·exact p101 h
theorem p85 {v s b r} (h:Wv v s b=some r):Pf v (Sl.es r):=by
 unfold Wv at h
 rcases cor h with ⟨_,h⟩|⟨_,h⟩
 ·rw[q3 h];exact id
 ·obtain⟨u,hu,h⟩:=Xa h
  refine .ex (xF73_1 hu) ?_
  rcases cor h with ⟨_,h⟩|⟨_,h⟩
  ·obtain⟨_,_,h⟩:=Xa h
   exact p93 h
  ·exact p93 h
theorem p77 {v s b r} (h:Ww v s b=some r):Pf v (Sl.es r):=by
 unfold Ww at h
 rcases cor h with ⟨_,h⟩|⟨_,h⟩
 ·rw[q3 h];exact id
 ·obtain⟨u,hu,h⟩:=Xa h
  refine .ex (xF72_1 hu) ?_
  rcases cor h with ⟨_,h⟩|⟨_,h⟩
  ·obtain⟨_,_,h⟩:=Xa h
   exact p85 h
  ·exact p85 h
theorem p69 {v s b r} (h:Wx v s b=some r):Pf v (Sl.es r):=by
 unfold Wx at h
 rcases cor h with ⟨_,h⟩|⟨_,h⟩
 ·rw[q3 h];exact id
 ·obtain⟨u,hu,h⟩:=Xa h
  refine .ex (xF71_1 hu) ?_
  rcases cor h with ⟨_,h⟩|⟨_,h⟩
  ·obtain⟨_,_,h⟩:=Xa h
   exact p77 h
  ·exact p77 h
theorem p61 {v s b r} (h:Wy v s b=some r):Pf v (Sl.es r):=by
 unfold Wy at h
 rcases cor h with ⟨_,h⟩|⟨_,h⟩
 ·rw[q3 h];exact id
 ·obtain⟨u,hu,h⟩:=Xa h
  refine .ex (xF70_1 hu) ?_
  rcases cor h with ⟨_,h⟩|⟨_,h⟩
  ·obtain⟨_,_,h⟩:=Xa h
   exact p69 h
  ·exact p69 h
theorem p54 {s l r} (h:Vl s l=some r):Pf l (Sl.es r):=by
 unfold Vl at h
 obtain⟨u,hu,h⟩:=Xa h
 refine .ex (xF69_1 hu) ?_
 rcases cor h with ⟨_,h⟩|⟨_,h⟩
 ·obtain⟨_,_,h⟩:=Xa h
  exact p61 h
 ·exact p61 h
theorem y117 {s r} (h:Zk [] s false=some r) (hr:Sl.es r=[]):Ze s 17 []=some []:=by
 unfold Zk at h
 rw[cond_false]at h
 obtain⟨u,hu,g⟩:=Xa h
 rw[q3 g]at hr
 subst hr
 exact hu
theorem y109 {s r} (h:Zl [] s false=some r) (hr:Sl.es r=[]):Zn s 16 []=some []/\Ze s 17 []=some []:=by
 unfold Zl at h
 rw[cond_false]at h
 obtain⟨u,hu,g⟩:=Xa h
 clear h
 have e:u=[]:=by
  rcases cor g with ⟨_,h⟩|⟨_,h⟩
  ·obtain⟨_,_,h⟩:=Xa h
   exact p117 h hr
  ·exact p117 h hr
 subst e
 have h:Zk [] s false=some r:=by
  rcases cor g with ⟨c,h⟩|⟨_,h⟩
  ·exact absurd c (by decide)
  ·exact h
 exact⟨hu,y117 h hr⟩
theorem y101 {s r} (h:Zm [] s false=some r) (hr:Sl.es r=[]):Zt s 15 []=some []/\Zn s 16 []=some []/\Ze s 17 []=some []:=by
 unfold Zm at h
 rw[cond_false]at h
 obtain⟨u,hu,g⟩:=Xa h
 clear h
 have e:u=[]:=by
  rcases cor g with ⟨_,h⟩|⟨_,h⟩
  ·obtain⟨_,_,h⟩:=Xa h
   exact p109 h hr
  ·exact p109 h hr
 subst e
 have h:Zl [] s false=some r:=by
  rcases cor g with ⟨c,h⟩|⟨_,h⟩
  ·exact absurd c (by decide)
  ·exact h
 exact⟨hu,y109 h hr⟩
theorem y93 {s r} (h:Wu [] s false=some r) (hr:Sl.es r=[]):Wc s 14 []=some []/\Zt s 15 []=some []/\Zn s 16 []=some []/\Ze s 17 []=some []:=by
 unfold Wu at h
 rw[cond_false]at h
 obtain⟨u,hu,g⟩:=Xa h
 clear h
 have e:u=[]:=by
  rcases cor g with ⟨_,h⟩|⟨_,h⟩
  ·obtain⟨_,_,h⟩:=Xa h
   exact p101 h hr
  ·exact p101 h hr
 subst e
 have h:Zm [] s false=some r:=by
  rcases cor g with ⟨c,h⟩|⟨_,h⟩
  ·exact absurd c (by decide)
  ·exact h
 exact⟨hu,y101 h hr⟩
theorem y85 {s r} (h:Wv [] s false=some r) (hr:Sl.es r=[]):Zo s 13 []=some []/\Wc s 14 []=some []/\Zt s 15 []=some []/\Zn s 16 []=some []/\Ze s 17 []=some []:=by
 unfold Wv at h
 rw[cond_false]at h
 obtain⟨u,hu,g⟩:=Xa h
 clear h
 have e:u=[]:=by
  rcases cor g with ⟨_,h⟩|⟨_,h⟩
  ·obtain⟨_,_,h⟩:=Xa h
   exact p93 h hr
  ·exact p93 h hr
 subst e
 have h:Wu [] s false=some r:=by
  rcases cor g with ⟨c,h⟩|⟨_,h⟩
  ·exact absurd c (by decide)
  ·exact h
 exact⟨hu,y93 h hr⟩
theorem y77 {s r} (h:Ww [] s false=some r) (hr:Sl.es r=[]):Wd s 12 []=some []/\Zo s 13 []=some []/\Wc s 14 []=some []/\Zt s 15 []=some []/\Zn s 16 []=some []/\Ze s 17 []=some []:=by
 unfold Ww at h
 rw[cond_false]at h
 obtain⟨u,hu,g⟩:=Xa h
 clear h
 have e:u=[]:=by
  rcases cor g with ⟨_,h⟩|⟨_,h⟩
  ·obtain⟨_,_,h⟩:=Xa h
   exact p85 h hr
  ·exact p85 h hr
 subst e
 have h:Wv [] s false=some r:=by
  rcases cor g with ⟨c,h⟩|⟨_,h⟩
  ·exact absurd c (by decide)
  ·exact h
 exact⟨hu,y85 h hr⟩
theorem y69 {s r} (h:Wx [] s false=some r) (hr:Sl.es r=[]):F71_1 s 11 []=some []/\Wd s 12 []=some []/\Zo s 13 []=some []/\Wc s 14 []=some []/\Zt s 15 []=some []/\Zn s 16 []=some []/\Ze s 17 []=some []:=by
 unfold Wx at h
 rw[cond_false]at h
 obtain⟨u,hu,g⟩:=Xa h
 clear h
 have e:u=[]:=by
  rcases cor g with ⟨_,h⟩|⟨_,h⟩
  ·obtain⟨_,_,h⟩:=Xa h
   exact p77 h hr
  ·exact p77 h hr
 subst e
 have h:Ww [] s false=some r:=by
  rcases cor g with ⟨c,h⟩|⟨_,h⟩
  ·exact absurd c (by decide)
  ·exact h
 exact⟨hu,y77 h hr⟩
theorem y61 {s r} (h:Wy [] s false=some r) (hr:Sl.es r=[]):F70_1 s 10 []=some []/\F71_1 s 11 []=some []/\Wd s 12 []=some []/\Zo s 13 []=some []/\Wc s 14 []=some []/\Zt s 15 []=some []/\Zn s 16 []=some []/\Ze s 17 []=some []:=by
 unfold Wy at h
 rw[cond_false]at h
 obtain⟨u,hu,g⟩:=Xa h
 clear h
 have e:u=[]:=by
  rcases cor g with ⟨_,h⟩|⟨_,h⟩
  ·obtain⟨_,_,h⟩:=Xa h
   exact p69 h hr
  ·exact p69 h hr
 subst e
 have h:Wx [] s false=some r:=by
  rcases cor g with ⟨c,h⟩|⟨_,h⟩
  ·exact absurd c (by decide)
  ·exact h
 exact⟨hu,y69 h hr⟩
theorem z54 {s l r} (h:Vl s l=some r) (hr:Sl.es r=[]):l=[]/\F69_1 s 9 []=some []/\F70_1 s 10 []=some []/\F71_1 s 11 []=some []/\Wd s 12 []=some []/\Zo s 13 []=some []/\Wc s 14 []=some []/\Zt s 15 []=some []/\Zn s 16 []=some []/\Ze s 17 []=some []:=by
 unfold Vl at h
 obtain⟨u,hu,g⟩:=Xa h
 clear h
 have e:u=[]:=by
  rcases cor g with ⟨_,h⟩|⟨_,h⟩
  ·obtain⟨_,_,h⟩:=Xa h
   exact p61 h hr
  ·exact p61 h hr
 subst e
 have k:=(xF69_1 hu).nil
 subst k
 have h:Wy [] s false=some r:=by
  rcases cor g with ⟨c,h⟩|⟨_,h⟩
  ·exact absurd c (by decide)
  ·exact h
 exact⟨rfl,hu,y61 h hr⟩
theorem z48 {s l r} (h:JF32_48 s l=some r) (hr:Sl.es r=[]):l=[]/\F68_1 s 8 []=some []/\F69_1 s 9 []=some []/\F70_1 s 10 []=some []/\F71_1 s 11 []=some []/\Wd s 12 []=some []/\Zo s 13 []=some []/\Wc s 14 []=some []/\Zt s 15 []=some []/\Zn s 16 []=some []/\Ze s 17 []=some []:=by
 unfold JF32_48 at h
 obtain⟨u,hu,h⟩:=Xa h
 have e:=z54 (ccc h) hr
 obtain⟨rfl,e⟩:=e
 have k:=(xF68_1 hu).nil
 subst k
 exact⟨rfl,hu,e⟩
theorem z42 {s l r} (h:JF32_42 s l=some r) (hr:Sl.es r=[]):l=[]/\F67_1 s 7 []=some []/\F68_1 s 8 []=some []/\F69_1 s 9 []=some []/\F70_1 s 10 []=some []/\F71_1 s 11 []=some []/\Wd s 12 []=some []/\Zo s 13 []=some []/\Wc s 14 []=some []/\Zt s 15 []=some []/\Zn s 16 []=some []/\Ze s 17 []=some []:=by
 unfold JF32_42 at h
 obtain⟨u,hu,h⟩:=Xa h
 have e:=z48 (ccc h) hr
 obtain⟨rfl,e⟩:=e
 have k:=(xF67_1 hu).nil
 subst k
 exact⟨rfl,hu,e⟩
theorem z36 {s l r} (h:JF32_36 s l=some r) (hr:Sl.es r=[]):l=[]/\F66_1 s 6 []=some []/\F67_1 s 7 []=some []/\F68_1 s 8 []=some []/\F69_1 s 9 []=some []/\F70_1 s 10 []=some []/\F71_1 s 11 []=some []/\Wd s 12 []=some []/\Zo s 13 []=some []/\Wc s 14 []=some []/\Zt s 15 []=some []/\Zn s 16 []=some []/\Ze s 17 []=some []:=by
 unfold JF32_36 at h
 obtain⟨u,hu,h⟩:=Xa h
 have e:=z42 (ccc h) hr
 obtain⟨rfl,e⟩:=e
 have k:=(xF66_1 hu).nil
 subst k
 exact⟨rfl,hu,e⟩
theorem z30 {s l r} (h:JF32_30 s l=some r) (hr:Sl.es r=[]):l=[]/\F65_1 s 5 []=some []/\F66_1 s 6 []=some []/\F67_1 s 7 []=some []/\F68_1 s 8 []=some []/\F69_1 s 9 []=some []/\F70_1 s 10 []=some []/\F71_1 s 11 []=some []/\Wd s 12 []=some []/\Zo s 13 []=some []/\Wc s 14 []=some []/\Zt s 15 []=some []/\Zn s 16 []=some []/\Ze s 17 []=some []:=by
 unfold JF32_30 at h
 obtain⟨u,hu,h⟩:=Xa h
 have e:=z36 (ccc h) hr
 obtain⟨rfl,e⟩:=e
 have k:=(xF65_1 hu).nil
 subst k
 exact⟨rfl,hu,e⟩
theorem z24 {s l r} (h:JF32_24 s l=some r) (hr:Sl.es r=[]):l=[]/\F64_1 s 4 []=some []/\F65_1 s 5 []=some []/\F66_1 s 6 []=some []/\F67_1 s 7 []=some []/\F68_1 s 8 []=some []/\F69_1 s 9 []=some []/\F70_1 s 10 []=some []/\F71_1 s 11 []=some []/\Wd s 12 []=some []/\Zo s 13 []=some []/\Wc s 14 []=some []/\Zt s 15 []=some []/\Zn s 16 []=some []/\Ze s 17 []=some []:=by
 unfold JF32_24 at h
 obtain⟨u,hu,h⟩:=Xa h
 have e:=z30 (ccc h) hr
 obtain⟨rfl,e⟩:=e
 have k:=(xF64_1 hu).nil
 subst k
 exact⟨rfl,hu,e⟩
theorem z18 {s l r} (h:JF32_18 s l=some r) (hr:Sl.es r=[]):l=[]/\F63_1 s 3 []=some []/\F64_1 s 4 []=some []/\F65_1 s 5 []=some []/\F66_1 s 6 []=some []/\F67_1 s 7 []=some []/\F68_1 s 8 []=some []/\F69_1 s 9 []=some []/\F70_1 s 10 []=some []/\F71_1 s 11 []=some []/\Wd s 12 []=some []/\Zo s 13 []=some []/\Wc s 14 []=some []/\Zt s 15 []=some []/\Zn s 16 []=some []/\Ze s 17 []=some []:=by
 unfold JF32_18 at h
 obtain⟨u,hu,h⟩:=Xa h
 have e:=z24 (ccc h) hr
 obtain⟨rfl,e⟩:=e
 have k:=(xF63_1 hu).nil
 subst k
 exact⟨rfl,hu,e⟩
theorem z32 {s r} (h:F32 s=some r) (hr:Sl.es r=[]):F61_1 s 1 []=some []/\F62_1 s 2 []=some []/\F63_1 s 3 []=some []/\F64_1 s 4 []=some []/\F65_1 s 5 []=some []/\F66_1 s 6 []=some []/\F67_1 s 7 []=some []/\F68_1 s 8 []=some []/\F69_1 s 9 []=some []/\F70_1 s 10 []=some []/\F71_1 s 11 []=some []/\Wd s 12 []=some []/\Zo s 13 []=some []/\Wc s 14 []=some []/\Zt s 15 []=some []/\Zn s 16 []=some []/\Ze s 17 []=some []:=by
 unfold F32 at h
 have h:JF32_4 s=some r:=by rcases cor h with ⟨_,h⟩|⟨_,h⟩<;>exact h
 unfold JF32_4 at h
 obtain⟨u,hu,h⟩:=Xa h
 rcases cor h with ⟨c,h⟩|⟨_,h⟩
 ·unfold JF32_11 at h
  rw[cond_true]at h
  have e:=q3 h
  rw[hr]at e
  subst e
  cases c
 ·unfold JF32_11 at h
  rw[cond_false]at h
  obtain⟨w,hw,h⟩:=Xa h
  obtain⟨rfl,e⟩:=z18 (ccc h) hr
  have k:=(xF62_1 hw).nil
  subst k
  exact⟨hu,hw,e⟩
theorem z13 {s} (h:F13 s=some true):F61_1 s 1 []=some []/\F62_1 s 2 []=some []/\F63_1 s 3 []=some []/\F64_1 s 4 []=some []/\F65_1 s 5 []=some []/\F66_1 s 6 []=some []/\F67_1 s 7 []=some []/\F68_1 s 8 []=some []/\F69_1 s 9 []=some []/\F70_1 s 10 []=some []/\F71_1 s 11 []=some []/\Wd s 12 []=some []/\Zo s 13 []=some []/\Wc s 14 []=some []/\Zt s 15 []=some []/\Zn s 16 []=some []/\Ze s 17 []=some []:=by
 unfold F13 at h
 obtain⟨r,hr,h⟩:=Xa h
 refine z32 hr ?_
 have e:=Option.some.inj h
 simp only[ln]at e
 exact List.eq_nil_of_length_eq_zero (by simpa using e)
theorem f99 {b i s r l} (h:Yi b i s r l=some []):b=false/\l=[]:=by
 unfold Yi at h
 cases b with
 |false=>cases h;exact⟨rfl,rfl⟩
 |true=>
  rw[cond_true]at h
  obtain⟨q,hq,h⟩:=Xa h
  cases h
  unfold gapp at hq
  split at hq
  ·have e:=Option.some.inj hq
   exact nomatch (List.append_eq_nil_iff.1 e).2
  ·cases hq
theorem each_inv {α:Type} {s:Sl α} {B:Int->List G35->Option ((Int×List G35)⊕List G35)} {P:Int->α->Prop} (hl:ln s<=1000000000000)
  (hB:∀ i l o,B i l=some o->(i<ln s/\∃ m l',gx (Sl.es s) i=some m/\o=.inl (wi (i+1),l')/\(l'=[]->l=[]/\P i m))\/(¬ i<ln s/\o=.inr l))
  {l0 r:List G35} (h:Xh (λ(x:Int×List G35)=>match x with|(i,l)=>B i l) (0,l0)=some r) (hr:r=[]):l0=[]/\∀ j m,gx (Sl.es s) j=some m->P j m:=by
 have key:=Xl (I:=λx=>0<=x.1/\(x.2=[]->l0=[]/\∀ j,j<x.1->∀ m,gx (Sl.es s) j=some m->P j m)) (T:=λr=>r=[]->l0=[]/\∀ j m,gx (Sl.es s) j=some m->P j m) h ⟨Int.le_refl _,λe=>⟨e,λj a m em=>by have:=(Zu em).1;simp only at a;omega⟩⟩ (by
  rintro⟨i,l⟩ o ⟨h0,hI⟩ hb
  rcases hB i l o hb with ⟨c,m,l',e,rfl,k⟩|⟨c,rfl⟩
  ·have e1:wi (i+1)=i+1:=Xv (by simp only at h0;omega) (by omega)
   rw[e1]
   refine⟨by simp only at h0 ⊢;omega,λhn=>?_⟩
   obtain⟨hl',hp⟩:=k hn
   obtain⟨hz,hI⟩:=hI hl'
   refine⟨hz,λj a m' em=>?_⟩
   by_cases hj:j=i
   ·subst hj;cases e.symm.trans em;exact hp
   ·exact hI j (by simp only at a ⊢;omega) m' em
  ·intro hn
   obtain⟨hz,hI⟩:=hI hn
   refine⟨hz,λj m' em=>hI j ?_ m' em⟩
   have:=(Zu em).2
   simp only[ln]at c ⊢
   omega)
 exact key hr
theorem find_inv {α:Type} {s:Sl α} {B:Int->Option (Int⊕(Int⊕Unit))} {P Q:α->Prop} (hl:ln s<=1000000000000)
  (hB:∀ i o,B i=some o->(i<ln s/\∃ x,gx (Sl.es s) i=some x/\((o=.inr (.inl i)/\Q x)\/(o=.inl (wi (i+1))/\P x)))\/(¬ i<ln s/\o=.inr (.inr ())))
  {o} (h:Xh (λ(i:Int)=>B i) 0=some o):(∃ i x,0<=i/\o=.inl i/\gx (Sl.es s) i=some x/\Q x)\/(o=.inr ()/\∀ j x,gx (Sl.es s) j=some x->P x):=by
 exact Xl (I:=λi=>0<=i/\∀ j,j<i->∀ x,gx (Sl.es s) j=some x->P x) (T:=λo=>(∃ i x,0<=i/\o=.inl i/\gx (Sl.es s) i=some x/\Q x)\/(o=.inr ()/\∀ j x,gx (Sl.es s) j=some x->P x)) h ⟨Int.le_refl _,λj a x em=>by have:=(Zu em).1;omega⟩ (by
  rintro i o ⟨h0,hI⟩ hb
  rcases hB i o hb with ⟨c,x,e,⟨rfl,q⟩|⟨rfl,k⟩⟩|⟨c,rfl⟩
  ·exact .inl ⟨i,x,h0,rfl,e,q⟩
  ·have e1:wi (i+1)=i+1:=Xv (by omega) (by omega)
   rw[e1]
   refine⟨by omega,λj a y ey=>?_⟩
   by_cases hj:j=i
   ·subst hj;cases e.symm.trans ey;exact k
   ·exact hI j (by omega) y ey
  ·refine .inr ⟨rfl,λj x ex=>hI j ?_ x ex⟩
   have:=(Zu ex).2
   simp only[ln]at c
   omega)
end Go.Proofs.YtnjmaohblihppaaGreatDoor
namespace Go.Proofs.YtnjmaohblihppaaGreatDoor
open Go.PE Go.RowKit
set_option maxRecDepth 100000
set_option maxHeartbeats 4000000
abbrev wsp (s:G27) (l:Sl G126):G27:=⟨s.fae,s.faq,s.fi,s.fc,l,s.fB⟩
theorem sp63 (s l):F63_1 (wsp s l) 3 []=F63_1 s 3 []:=rfl
theorem sp64 (s l):F64_1 (wsp s l) 4 []=F64_1 s 4 []:=rfl
theorem sp65 (s l):F65_1 (wsp s l) 5 []=F65_1 s 5 []:=rfl
theorem sp66 (s l):F66_1 (wsp s l) 6 []=F66_1 s 6 []:=rfl
theorem sp67 (s l):F67_1 (wsp s l) 7 []=F67_1 s 7 []:=rfl
theorem sp68 (s l):F68_1 (wsp s l) 8 []=F68_1 s 8 []:=rfl
theorem sp69 (s l):F69_1 (wsp s l) 9 []=F69_1 s 9 []:=rfl
theorem sp70 (s l):F70_1 (wsp s l) 10 []=F70_1 s 10 []:=rfl
theorem sp71 (s l):F71_1 (wsp s l) 11 []=F71_1 s 11 []:=rfl
theorem sp74 (s l):Wc (wsp s l) 14 []=Wc s 14 []:=rfl
theorem sp75 (s l):Zt (wsp s l) 15 []=Zt s 15 []:=rfl
theorem sp76 (s l):Zn (wsp s l) 16 []=Zn s 16 []:=rfl
theorem sp77 (s l):Ze (wsp s l) 17 []=Ze s 17 []:=rfl
theorem sp61 {s l} (h:ln l=ln s.fh):F61_1 (wsp s l) 1 []=F61_1 s 1 []:=by
 have j7:∀ v,JF61_1_7 (wsp s l) 1 v=JF61_1_7 s 1 v:=by
  intro v
  unfold JF61_1_7
  rw[show ln (wsp s l).fh=ln s.fh from h]
  rfl
 have j5:∀ v,JF61_1_5 (wsp s l) 1 v=JF61_1_5 s 1 v:=by
  intro v
  unfold JF61_1_5
  simp only[j7]
  rfl
 unfold F61_1
 simp only[j5]
 rfl
theorem back13 {s:G27} (h1:F61_1 s 1 []=some []) (h2:F62_1 s 2 []=some []) (h3:F63_1 s 3 []=some []) (h4:F64_1 s 4 []=some []) (h5:F65_1 s 5 []=some []) (h6:F66_1 s 6 []=some []) (h7:F67_1 s 7 []=some []) (h8:F68_1 s 8 []=some []) (h9:F69_1 s 9 []=some []) (h10:F70_1 s 10 []=some []) (h11:F71_1 s 11 []=some []) (h12:Wd s 12 []=some []) (h13:Zo s 13 []=some []) (h14:Wc s 14 []=some []) (h15:Zt s 15 []=some []) (h16:Zn s 16 []=some []) (h17:Ze s 17 []=some []):F13 s=some true:=by
 have e:decide (lnl ([]:List G35)>0)=false:=rfl
 have a117:Zk [] s false=some .nil:=by unfold Zk;simp only[cond_false,h17,Option.bind_some];rfl
 have a109:Zl [] s false=some .nil:=by unfold Zl;simp only[cond_false,h16,Option.bind_some,e,cond_false,a117]
 have a101:Zm [] s false=some .nil:=by unfold Zm;simp only[cond_false,h15,Option.bind_some,e,cond_false,a109]
 have a93:Wu [] s false=some .nil:=by unfold Wu;simp only[cond_false,h14,Option.bind_some,e,cond_false,a101]
 have a85:Wv [] s false=some .nil:=by unfold Wv;simp only[cond_false,h13,Option.bind_some,e,cond_false,a93]
 have a77:Ww [] s false=some .nil:=by unfold Ww;simp only[cond_false,h12,Option.bind_some,e,cond_false,a85]
 have a69:Wx [] s false=some .nil:=by unfold Wx;simp only[cond_false,h11,Option.bind_some,e,cond_false,a77]
 have a61:Wy [] s false=some .nil:=by unfold Wy;simp only[cond_false,h10,Option.bind_some,e,cond_false,a69]
 have a54:Vl s []=some .nil:=by unfold Vl;simp only[h9,Option.bind_some,e,cond_false,a61]
 have a48:JF32_48 s []=some .nil:=by unfold JF32_48;simp only[h8,Option.bind_some,e,cond_false,a54]
 have a42:JF32_42 s []=some .nil:=by unfold JF32_42;simp only[h7,Option.bind_some,e,cond_false,a48]
 have a36:JF32_36 s []=some .nil:=by unfold JF32_36;simp only[h6,Option.bind_some,e,cond_false,a42]
 have a30:JF32_30 s []=some .nil:=by unfold JF32_30;simp only[h5,Option.bind_some,e,cond_false,a36]
 have a24:JF32_24 s []=some .nil:=by unfold JF32_24;simp only[h4,Option.bind_some,e,cond_false,a30]
 have a18:JF32_18 s []=some .nil:=by unfold JF32_18;simp only[h3,Option.bind_some,e,cond_false,a24]
 have a11:JF32_11 [] s false=some .nil:=by unfold JF32_11;simp only[cond_false,h2,Option.bind_some,e,cond_false,a18]
 have a4:JF32_4 s=some .nil:=by unfold JF32_4;simp only[h1,Option.bind_some,e,cond_false,a11]
 have a32:F32 s=some .nil:=by unfold F32;simp only[e,cond_false,a4]
 unfold F13
 rw[a32]
 rfl
end Go.Proofs.YtnjmaohblihppaaGreatDoor
namespace Go.Proofs.YtnjmaohblihppaaGreatDoor
open Go.PE Go.RowKit
set_option maxRecDepth 100000
set_option maxHeartbeats 4000000
theorem kd66 {s v1 i a b c d e f g j t} (h:LF78_2_66 s v1 i a b c d e f g j=some (.inr (.inl t))):t.1=5:=by
 unfold LF78_2_66 at h
 rcases cor h with ⟨_,h⟩|⟨_,h⟩
 ·obtain⟨M,g1,h⟩:=Xa h
  obtain⟨r,hr,h⟩:=Xa h
  rcases cor h with ⟨c,h⟩|⟨_,h⟩
  ·obtain rfl:=R15_hit hr c
   cases h
   rfl
  ·cases h
 ·cases h
theorem kd36 {s x a b c d e f g i r} (h:Yw s x a b c d e f g i=some r) (hr:r.2.2.2.2.2.2.2.2=true):r.1=5:=by
 unfold Yw at h
 obtain⟨o,ho,h⟩:=Xa h
 have q:=Zq (T:=λo=>match o with|.inl t=>t.1=5|.inr _=>True) ho (by
  rintro⟨a,b,c,d,e,f,g,i,j⟩ (o|o) h
  ·exact kd66 h
  ·trivial)
 rcases o with o|o
 ·cases h
  exact q
 ·cases h
  cases hr
abbrev pz:G193×Bool:=(⟨0,0,0,0⟩,false)
theorem w336 {s:G27} {l:Sl G126} {id a b c d e f g h i j}:Uj (wsp s l) id a b c d e f g h i j=Uj s id a b c d e f g h i j:=rfl
theorem w120 {s:G27} {l:Sl G126} {id a b c d e f g h i}:Uk (wsp s l) id a b c d e f g h i=Uk s id a b c d e f g h i:=rfl
theorem w159 {s:G27} {l:Sl G126} {p b}:Wo (wsp s l) p b=Wo s p b:=rfl
theorem q27 {s:G27} {l:Sl G126} {id:G33} {a b c d e f g i t t'} (h:Vf s id a b c d e f g i=some t) (h':Vf (wsp s l) id a b c d e f g i=some t'):t'=t\/∃ a b c d e f g i,Yw s id a b c d e f g i=some t/\Yw (wsp s l) id a b c d e f g i=some t':=by
 unfold Vf at h h'
 obtain⟨o,ho,h⟩:=Xa h
 obtain⟨o',ho',h'⟩:=Xa h'
 have e:some o'=some o:=ho'.symm.trans ((congrArg (λb=>Xh b _) (funext λx=>by
  obtain⟨x0,x1,x2,x3,x4,x5,x6,x7,x8⟩:=x
  exact w120)).trans ho)
 cases e
 clear ho ho'
 rcases o with ⟨a,b,c,d,e,f,g,i⟩|⟨a,b,c,d,e,f,g,i⟩
 ·cases h
  cases h'
  exact .inl rfl
 ·exact .inr ⟨a,b,c,d,e,f,g,i,h,h'⟩
theorem q78 {s:G27} {l:Sl G126} {id:G33} {a b c d e f g i t t'} (h:F78_2 s id a b c d e f g i=some t) (h':F78_2 (wsp s l) id a b c d e f g i=some t'):t'=t\/∃ a b c d e f g i,Yw s id a b c d e f g i=some t/\Yw (wsp s l) id a b c d e f g i=some t':=by
 unfold F78_2 at h h'
 obtain⟨o,ho,h⟩:=Xa h
 obtain⟨o',ho',h'⟩:=Xa h'
 have e:some o'=some o:=ho'.symm.trans ((congrArg (λb=>Xh b _) (funext λx=>by
  obtain⟨x0,x1,x2,x3,x4,x5,x6,x7,x8,x9⟩:=x
  exact w336)).trans ho)
 cases e
 clear ho ho'
 rcases o with ⟨a,b,c,d,e,f,g,i⟩|⟨a,b,c,d,e,f,g,i⟩
 ·cases h
  cases h'
  exact .inl rfl
 ·exact q27 h h'
theorem pl78 {s:G27} {id:G33} {r v} {t} (hid:((id.fG==0)&&((id.fK==0)&&true))=false) (h:F78_2 s id 0 0 0 0 0 0 0 false=some t):Wj id s r v=(bif t.2.2.2.2.2.2.2.2 then some ((⟨t.1,t.2.1,t.2.2.1,t.2.2.2.1,t.2.2.2.2.1,t.2.2.2.2.2.1,t.2.2.2.2.2.2.1⟩:G39),t.2.2.2.2.2.2.2.1)else JF15_11 t.1 t.2.1 t.2.2.1 t.2.2.2.1 t.2.2.2.2.1 t.2.2.2.2.2.1 t.2.2.2.2.2.2.1 t.2.2.2.2.2.2.2.1).bind λv4=>bif (!v4.2)then Wo s v4 true else Wo s v4 (v4.1.fj !=4):=by
 unfold Wj F15
 rw[hid,cond_false,h]
 rfl
theorem pl36 {s:G27} {id:G33} {r v} {a b c d e f g i t} (hid:((id.fG==0)&&((id.fK==0)&&true))=false) (h:F78_2 s id 0 0 0 0 0 0 0 false=some t) (ht:Yw s id a b c d e f g i=some t):Wj id s r v=some pz:=by
 rw[pl78 hid h]
 cases hf:t.2.2.2.2.2.2.2.2 with
 |true=>
  have k:=kd36 ht hf
  simp only[cond_true,Option.bind_some,k]
  cases t.2.2.2.2.2.2.2.1<;>rfl
 |false=>
  simp only[cond_false]
  rfl
theorem place_same {s:G27} {l:Sl G126} {id:G33} {r v} (hs:okG27 s) (hx:okG27 (wsp s l)):Wj id (wsp s l) r v=Wj id s r v:=by
 cases hid:((id.fG==0)&&((id.fK==0)&&true))with
 |true=>
  unfold Wj F15
  simp only[hid,cond_true,Option.bind_some,w159]
 |false=>
  obtain⟨p,ep,_⟩:=tF15 (v0:=s) (v1:=id) hs
  obtain⟨p',ep',_⟩:=tF15 (v0:=wsp s l) (v1:=id) hx
  unfold F15 at ep ep'
  rw[hid,cond_false]at ep ep'
  obtain⟨t,ht,_⟩:=Xa ep
  obtain⟨t',ht',_⟩:=Xa ep'
  clear ep ep'
  rcases q78 ht ht' with rfl|⟨a,b,c,d,e,f,g,i,k1,k2⟩
  ·rw[pl78 hid ht,pl78 hid ht']
   simp only[w159]
  ·rw[pl36 hid ht k1,pl36 hid ht' k2]
end Go.Proofs.YtnjmaohblihppaaGreatDoor
namespace Go.Proofs.YtnjmaohblihppaaGreatDoor
open Go.PE Go.RowKit
set_option maxRecDepth 100000
set_option maxHeartbeats 4000000
theorem sy163 (a b:G195):F163 a b=F163 b a:=by
 obtain⟨x,ex,_⟩:=tF191 (v0:=a.fTo) (v1:=b.fy)
 obtain⟨y,ey,_⟩:=tF191 (v0:=b.fTo) (v1:=a.fy)
 unfold F163
 simp only[ex,ey,Option.bind_some]
 cases decide (x<=0)<;>cases decide (y<=0)<;>rfl
theorem sy165 (a b:G195):F165 a b=F165 b a:=by
 obtain⟨x,ex,_⟩:=tF191 (v0:=a.fTo) (v1:=b.fy)
 obtain⟨y,ey,_⟩:=tF191 (v0:=b.fTo) (v1:=a.fy)
 unfold F165
 simp only[ex,ey,Option.bind_some]
 cases decide (x<0)<;>cases decide (y<0)<;>rfl
theorem sy162 (a b:G195):F162 a b=F162 b a:=by unfold F162;rw[sy163]
theorem sy164 (a b:G195):F164 a b=F164 b a:=by unfold F164;rw[sy165]
theorem sy166 (a b:G195):F166 a b=F166 b a:=by
 obtain⟨x,ex,_⟩:=tF193 (v0:=a) (v1:=b)
 obtain⟨y,ey,_⟩:=tF193 (v0:=b) (v1:=a)
 unfold F166
 rw[sy163]
 simp only[ex,ey,Option.bind_some]
 cases x<;>cases y<;>rfl
theorem g192 {k g:Int} (h:F192 k=some g):(g=0/\(k<1\/k>7))\/(k=1/\g=1)\/(k=2/\g=2)\/(k=3/\g=2)\/(k=4/\g=4)\/(k=5/\g=4)\/(k=6/\g=6)\/(k=7/\g=7):=by
 unfold F192 at h
 by_cases a:k<1
 ·rw[decide_eq_true a,cond_true]at h
  cases h
  exact .inl ⟨rfl,.inl a⟩
 ·rw[decide_eq_false a,cond_false]at h
  by_cases b:k>7
  ·rw[decide_eq_true b]at h
   cases h
   exact .inl ⟨rfl,.inr b⟩
  ·rw[decide_eq_false b]at h
   have:k=1\/k=2\/k=3\/k=4\/k=5\/k=6\/k=7:=by omega
   rcases this with rfl|rfl|rfl|rfl|rfl|rfl|rfl<;>cases h<;>simp
theorem t192 (k:Int):∃ g,F192 k=some g:=(tF192 (v0:=k)).imp λ_ h=>h.1
theorem sy161 (a b:G195):F161 a b=F161 b a/\(F161 a b=some true->∃ g,F192 a.fj=some g/\F192 b.fj=some g/\g>0):=by
 obtain⟨g1,e1⟩:=t192 a.fj
 obtain⟨g2,e2⟩:=t192 b.fj
 have k1:=g192 e1
 have k2:=g192 e2
 unfold F161
 simp only[e1,e2,Option.bind_some]
 by_cases h1:g1>0
 ·by_cases h2:g1=g2
  ·subst h2
   refine⟨?_,λ_=>⟨g1,rfl,rfl,h1⟩⟩
   have hk:F190 a.fj=F190 b.fj:=by
    rcases k1 with ⟨rfl,_⟩|⟨p,q⟩|⟨p,q⟩|⟨p,q⟩|⟨p,q⟩|⟨p,q⟩|⟨p,q⟩|⟨p,q⟩<;>rcases k2 with ⟨u,_⟩|⟨u,v⟩|⟨u,v⟩|⟨u,v⟩|⟨u,v⟩|⟨u,v⟩|⟨u,v⟩|⟨u,v⟩<;>first|omega|(rw[p,u];done)|(rw[p,u];rfl)
   rw[hk,decide_eq_true h1]
   simp only[cond_true,BEq.rfl]
   have c1:(a.fy.fu==b.fy.fu)=(b.fy.fu==a.fy.fu):=BEq.comm
   have c2:(a.fy.fq==b.fy.fq)=(b.fy.fq==a.fy.fq):=BEq.comm
   rw[c1,c2]
  ·rw[decide_eq_true h1,show(g1==g2)=false by simpa using h2,show(g2==g1)=false by simpa using Ne.symm h2]
   refine⟨?_,λh=>by cases h⟩
   cases decide (g2>0)<;>rfl
 ·rw[decide_eq_false h1]
  have:g1=0:=by omega
  subst this
  refine⟨?_,λh=>by cases h⟩
  by_cases h2:g2>0
  ·rw[decide_eq_true h2,show(g2==0)=false by simp;omega]
   rfl
  ·rw[decide_eq_false h2]
   simp only[cond_false]
theorem sy126 (a b:G195):F126 a b=F126 b a:=by
 obtain⟨h,hg⟩:=sy161 a b
 obtain⟨x,ex,_⟩:=tF161 (v0:=a) (v1:=b)
 have ex':=h.symm.trans ex
 unfold F126
 rw[ex,ex']
 simp only[Option.bind_some]
 cases x with
 |false=>rfl
 |true=>
  obtain⟨g,e1,e2,h0⟩:=hg ex
  have k1:=g192 e1
  have k2:=g192 e2
  rw[sy166,sy162,sy164]
  rcases k1 with ⟨rfl,_⟩|⟨p,q⟩|⟨p,q⟩|⟨p,q⟩|⟨p,q⟩|⟨p,q⟩|⟨p,q⟩|⟨p,q⟩<;>rcases k2 with ⟨u,_⟩|⟨u,v⟩|⟨u,v⟩|⟨u,v⟩|⟨u,v⟩|⟨u,v⟩|⟨u,v⟩|⟨u,v⟩<;>first|omega|(rw[p,u];done)|(rw[p,u];rfl)
end Go.Proofs.YtnjmaohblihppaaGreatDoor
namespace Go.Proofs.YtnjmaohblihppaaGreatDoor
open Go.PE Go.RowKit
set_option maxRecDepth 100000
set_option maxHeartbeats 4000000
def spF (s:G27) (x:G126):Option (G195×Bool):=(Wj x.fy s 0 []).bind λa=>(Wj x.fTo s 0 []).bind λb=>
 bif !a.2 then some (⟨x.fj,⟨a.1.fw,a.1.fAt,a.1.fu,a.1.fq⟩,⟨b.1.fw,b.1.fAt,b.1.fu,b.1.fq⟩⟩,true)else
 bif !b.2 then some (⟨x.fj,⟨a.1.fw,a.1.fAt,a.1.fu,a.1.fq⟩,⟨b.1.fw,b.1.fAt,b.1.fu,b.1.fq⟩⟩,true)else
 (F160 ⟨x.fj,⟨a.1.fw,a.1.fAt,a.1.fu,a.1.fq⟩,⟨b.1.fw,b.1.fAt,b.1.fu,b.1.fq⟩⟩).bind λe=>some (⟨x.fj,⟨a.1.fw,a.1.fAt,a.1.fu,a.1.fq⟩,⟨b.1.fw,b.1.fAt,b.1.fu,b.1.fq⟩⟩,e !=0)
theorem spF_same {s:G27} {l:Sl G126} (hs:okG27 s) (hx:okG27 (wsp s l)) (x:G126):spF (wsp s l) x=spF s x:=by
 unfold spF
 rw[place_same hs hx,place_same hs hx]
theorem w159r (id s r v):Wj id s r v=Wj id s 0 []:=rfl
theorem gx_snoc_lt {α:Type} {l:List α} {a:α} {j:Int} (h:j<l.length):gx (l++[a]) j=gx l j:=by
 unfold gx
 by_cases h0:0<=j
 ·rw[if_pos h0,if_pos h0,List.getElem?_append_left (by omega)]
 ·rw[if_neg h0,if_neg h0]
theorem gx_snoc {α:Type} {l:List α} {a:α} {j:Int} (h:j=l.length):gx (l++[a]) j=some a:=by
 unfold gx
 subst h
 rw[if_pos (by omega),show((l.length:Int)).toNat=l.length by omega]
 simp
theorem gapp_one {α:Type} {b:Nat} {l q:List α} {a:α} (h:gapp b l (Sl.es (Sl.full [a]))=some q):q=l++[a]:=by
 unfold gapp at h
 split at h
 ·cases h;rfl
 ·cases h
def Spn (s:G27) (A:List G195) (W:List Bool) (n:Int):Prop:=(A.length:Int)=n/\(W.length:Int)=n/\∀ j x,j<n->gx (Sl.es s.fh) j=some x->∃ a w,spF s x=some (a,w)/\gx A j=some a/\gx W j=some w
theorem Spn.step {s A W n x a w} (h:Spn s A W n) (hx:gx (Sl.es s.fh) n=some x) (hw:spF s x=some (a,w)):Spn s (A++[a]) (W++[w]) (n+1):=by
 obtain⟨h1,h2,h3⟩:=h
 refine⟨by simp;omega,by simp;omega,λj y hj hy=>?_⟩
 by_cases c:j=n
 ·subst c
  cases hx.symm.trans hy
  exact⟨a,w,hw,gx_snoc h1.symm,gx_snoc h2.symm⟩
 ·obtain⟨a',w',k1,k2,k3⟩:=h3 j y (by omega) hy
  exact⟨a',w',k1,by rw[gx_snoc_lt (by omega)];exact k2,by rw[gx_snoc_lt (by omega)];exact k3⟩
theorem f125 {s r v A W} (hs:okG27 s) (h:F125_1 s r v=some (A,W)):∀ j x,gx (Sl.es s.fh) j=some x->∃ a w,spF s x=some (a,w)/\gx (Sl.es A) j=some a/\gx (Sl.es W) j=some w:=by
 unfold F125_1 at h
 obtain⟨o,ho,h⟩:=Xa h
 have hl:=hs.fh.le
 have key:=Xl (I:=λst=>0<=st.2.2/\st.2.2<=ln s.fh/\Spn s st.1 st.2.1 st.2.2) (T:=λo=>Spn s o.1 o.2 (ln s.fh)) ho ⟨Int.le_refl _,hl.1,rfl,rfl,λj x hj hx=>by have:=(Zu hx).1;have hj:j<0:=hj;omega⟩ (by
  rintro⟨A,W,i⟩ o ⟨h0,hi,hI⟩ hb
  unfold LF125_1_15 at hb
  have h0:0<=i:=h0
  have hI:Spn s A W i:=hI
  have hi:i<=ln s.fh:=hi
  rcases cor hb with ⟨c,hb⟩|⟨c,hb⟩
  ·have c:=of_decide_eq_true c
   obtain⟨x,hx,hb⟩:=Xa hb
   obtain⟨a,ha,hb⟩:=Xa hb
   obtain⟨b,hb1,hb⟩:=Xa hb
   obtain⟨A',hA,hb⟩:=Xa hb
   have eA:=gapp_one hA
   subst eA
   rw[w159r]at ha hb1
   have e1:wi (i+1)=i+1:=Xv (by omega) (by omega)
   rcases cor hb with ⟨c1,hb⟩|⟨c1,hb⟩
   ·obtain⟨W',hW,hb⟩:=Xa hb
    have eW:=gapp_one hW
    subst eW
    cases hb
    refine⟨by show 0<=wi (i+1);omega,by show wi (i+1)<=_;omega,?_⟩
    show Spn s _ _ (wi (i+1))
    rw[e1]
    refine hI.step hx ?_
    unfold spF
    rw[ha,hb1]
    simp only[Option.bind_some,c1,cond_true]
   rcases cor hb with ⟨c2,hb⟩|⟨c2,hb⟩
   ·obtain⟨W',hW,hb⟩:=Xa hb
    have eW:=gapp_one hW
    subst eW
    cases hb
    refine⟨by show 0<=wi (i+1);omega,by show wi (i+1)<=_;omega,?_⟩
    show Spn s _ _ (wi (i+1))
    rw[e1]
    refine hI.step hx ?_
    unfold spF
    rw[ha,hb1]
    simp only[Option.bind_some,c1,c2,cond_true,cond_false]
   ·obtain⟨e,he,hb⟩:=Xa hb
    obtain⟨W',hW,hb⟩:=Xa hb
    have eW:=gapp_one hW
    subst eW
    cases hb
    refine⟨by show 0<=wi (i+1);omega,by show wi (i+1)<=_;omega,?_⟩
    show Spn s _ _ (wi (i+1))
    rw[e1]
    refine hI.step hx ?_
    unfold spF
    rw[ha,hb1]
    simp only[Option.bind_some,c1,c2,cond_false,he]
  ·cases hb
   have c:=of_decide_eq_false c
   have e:i=ln s.fh:=by omega
   rw[<-e]
   exact hI)
 obtain⟨A',W'⟩:=o
 unfold JF125_1_5 at h
 cases h
 intro j x hx
 obtain⟨a,w,k1,k2,k3⟩:=key.2.2 j x (by have:=(Zu hx).2;unfold ln;omega) hx
 exact⟨a,w,k1,by rw[mkSl_es];exact k2,by rw[mkSl_es];exact k3⟩
end Go.Proofs.YtnjmaohblihppaaGreatDoor
namespace Go.Proofs.YtnjmaohblihppaaGreatDoor
open Go.PE Go.RowKit
set_option maxRecDepth 100000
set_option maxHeartbeats 4000000
theorem e12 {s:G27} (hs:okG27 s) (h:Wd s 12 []=some []):∀ j x,gx (Sl.es s.fh) j=some x->∃ a,spF s x=some (a,false):=by
 unfold Wd at h
 obtain⟨v7,h7,h⟩:=Xa h
 obtain⟨o,ho,h⟩:=Xa h
 cases h
 obtain⟨A,W⟩:=v7
 have key:=f125 hs h7
 have q:=(each_inv (s:=s.fh) (P:=λi _=>gx (Sl.es W) i=some false) (by have:=hs.fh.le;omega) (λi l o hb=>by
  unfold LF72_1_16 at hb
  rcases cor hb with ⟨c,hb⟩|⟨c,hb⟩
  ·obtain⟨x,hx,hb⟩:=Xa hb
   obtain⟨b,eb,hb⟩:=Xa hb
   obtain⟨l',hl',hb⟩:=Xa hb
   cases hb
   refine .inl ⟨of_decide_eq_true c,x,l',hx,rfl,λe=>?_⟩
   subst e
   obtain⟨rfl,rfl⟩:=f99 hl'
   exact⟨rfl,eb⟩
  ·cases hb
   exact .inr ⟨of_decide_eq_false c,rfl⟩) ho rfl).2
 intro j x hx
 obtain⟨a,w,k1,_,k3⟩:=key j x hx
 have:=q j x hx
 cases k3.symm.trans this
 exact⟨a,k1⟩
theorem f99n {i:G33} {s:G27} {r:Int} {l v:List G35} (h:Yi false i s r l=some v):v=l:=by
 unfold Yi at h
 cases h
 rfl
theorem e12b {s:G27} (hs:okG27 s) (h:∀ j x,gx (Sl.es s.fh) j=some x->∃ a,spF s x=some (a,false)):Wd s 12 []=some []:=by
 obtain⟨r,hr,_⟩:=tF72_1 (v0:=s) (v1:=12) (v2:=[]) hs (by decide)
 rw[hr]
 unfold Wd at hr
 obtain⟨v7,h7,hr⟩:=Xa hr
 obtain⟨o,ho,hr⟩:=Xa hr
 cases hr
 obtain⟨A,W⟩:=v7
 have key:=f125 hs h7
 have q:=Xl (I:=λst=>st.2=[]) (T:=λr=>r=[]) ho rfl (by
  rintro⟨i,l⟩ o hI hb
  have hI:l=[]:=hI
  subst hI
  unfold LF72_1_16 at hb
  rcases cor hb with ⟨c,hb⟩|⟨c,hb⟩
  ·obtain⟨x,hx,hb⟩:=Xa hb
   obtain⟨b,eb,hb⟩:=Xa hb
   obtain⟨l',hl',hb⟩:=Xa hb
   cases hb
   obtain⟨a,w,k1,_,k3⟩:=key i x hx
   obtain⟨a',k4⟩:=h i x hx
   cases k1.symm.trans k4
   cases k3.symm.trans eb
   exact f99n hl'
  ·cases hb
   rfl)
 rw[q]
theorem in13 {i:Int} {A:Sl G195} {W:Sl Bool} {r:Bool} (hi:i<=1000) (hw:gx (Sl.es W) i=some false) (h:Xh (λ(x:Bool×Int)=>match x with|(v31,v32)=>Vu i (A,W) v31 v32) (false,0)=some r):
  r=false->∀ k,0<=k->k<i->gx (Sl.es W) k=some false->∀ b a,gx (Sl.es A) k=some b->gx (Sl.es A) i=some a->F126 b a=some false:=by
 exact Xl (I:=λst=>0<=st.2/\(st.1=false->∀ k,0<=k->k<st.2->gx (Sl.es W) k=some false->∀ b a,gx (Sl.es A) k=some b->gx (Sl.es A) i=some a->F126 b a=some false))
  (T:=λr=>r=false->∀ k,0<=k->k<i->gx (Sl.es W) k=some false->∀ b a,gx (Sl.es A) k=some b->gx (Sl.es A) i=some a->F126 b a=some false) h ⟨Int.le_refl _,λ_ k h0 h1=>absurd (show k<0 from h1) (by omega)⟩ (by
  rintro⟨e,k⟩ o ⟨h0,hI⟩ hb
  have h0:0<=k:=h0
  unfold Vu at hb
  rcases cor hb with ⟨c,hb⟩|⟨c,hb⟩
  ·have c:=of_decide_eq_true c
   have e1:wi (k+1)=k+1:=Xv (by omega) (by omega)
   rw[show gx (Sl.es (A,W).2) i=some false from hw]at hb
   simp only[Option.bind_some,Bool.not_false,cond_true]at hb
   unfold Zb at hb
   cases e with
   |true=>
    cases hb
    exact λh=>by cases h
   |false=>
    simp only[Bool.not_false,cond_true]at hb
    obtain⟨w,ew,hb⟩:=Xa hb
    cases w with
    |true=>
     cases hb
     refine⟨by show 0<=wi (k+1);omega,λ_ k' h2 h3 h4=>?_⟩
     have h3:k'<wi (k+1):=h3
     by_cases hk:k'=k
     ·subst hk
      have ew:gx (Sl.es W) k'=some true:=ew
      cases ew.symm.trans h4
     ·exact hI rfl k' h2 (by show k'<k;omega) h4
    |false=>
     simp only[Bool.not_false,cond_true]at hb
     obtain⟨b,eb,hb⟩:=Xa hb
     obtain⟨a,ea,hb⟩:=Xa hb
     obtain⟨z,hz,hb⟩:=Xa hb
     cases hb
     refine⟨by show 0<=wi (k+1);omega,λhzf k' h2 h3 h4 b' a' q1 q2=>?_⟩
     have h3:k'<wi (k+1):=h3
     have hzf:z=false:=hzf
     by_cases hk:k'=k
     ·subst hk
      have eb:gx (Sl.es A) k'=some b:=eb
      have ea:gx (Sl.es A) i=some a:=ea
      cases eb.symm.trans q1
      cases ea.symm.trans q2
      exact hz.trans (congrArg some hzf)
     ·exact hI rfl k' h2 (by show k'<k;omega) h4 b' a' q1 q2
  ·have c:=of_decide_eq_false c
   unfold Zb at hb
   cases hb
   intro he k' h2 h3
   exact hI he k' h2 (by show k'<k;omega))
theorem e13 {s:G27} (hs:okG27 s) (h12:∀ j x,gx (Sl.es s.fh) j=some x->∃ a,spF s x=some (a,false)) (h:Zo s 13 []=some []):
  ∀ i k x y,k<i->gx (Sl.es s.fh) i=some x->gx (Sl.es s.fh) k=some y->∀ a b,spF s x=some (a,false)->spF s y=some (b,false)->F126 b a=some false:=by
 unfold Zo at h
 obtain⟨v7,h7,h⟩:=Xa h
 obtain⟨o,ho,h⟩:=Xa h
 cases h
 obtain⟨A,W⟩:=v7
 have key:=f125 hs h7
 have q:=(each_inv (s:=s.fh) (P:=λi _=>Xh (λ(x:Bool×Int)=>match x with|(v31,v32)=>Vu i (A,W) v31 v32) (false,0)=some false) (by have:=hs.fh.le;omega) (λi l o hb=>by
  unfold LF73_1_16 at hb
  rcases cor hb with ⟨c,hb⟩|⟨c,hb⟩
  ·obtain⟨x,hx,hb⟩:=Xa hb
   obtain⟨b,eb,hb⟩:=Xa hb
   unfold Vw at hb
   obtain⟨l',hl',hb⟩:=Xa hb
   unfold Vx at hb
   cases hb
   refine .inl ⟨of_decide_eq_true c,x,l',hx,rfl,λe=>?_⟩
   subst e
   obtain⟨rfl,rfl⟩:=f99 hl'
   exact⟨rfl,eb⟩
  ·cases hb
   exact .inr ⟨of_decide_eq_false c,rfl⟩) ho rfl).2
 intro i k x y hki hx hy a b ha hb
 obtain⟨a',w,k1,k2,k3⟩:=key i x hx
 obtain⟨b',w',m1,m2,m3⟩:=key k y hy
 cases k1.symm.trans ha
 cases m1.symm.trans hb
 have hl:=hs.fh.le
 have hi:=(Zu hx).2
 exact in13 (by unfold ln at hl;omega) k3 (q i x hx) rfl k (Zu hy).1 hki m3 b a m2 k2
theorem e13b {s:G27} (hs:okG27 s) (h12:∀ j x,gx (Sl.es s.fh) j=some x->∃ a,spF s x=some (a,false))
  (h13:∀ i k x y,k<i->gx (Sl.es s.fh) i=some x->gx (Sl.es s.fh) k=some y->∀ a b,spF s x=some (a,false)->spF s y=some (b,false)->F126 b a=some false):Zo s 13 []=some []:=by
 obtain⟨r,hr,_⟩:=tF73_1 (v0:=s) (v1:=13) (v2:=[]) hs (by decide)
 rw[hr]
 unfold Zo at hr
 obtain⟨v7,h7,hr⟩:=Xa hr
 obtain⟨o,ho,hr⟩:=Xa hr
 cases hr
 obtain⟨A,W⟩:=v7
 have key:=f125 hs h7
 have q:=Xl (I:=λst=>st.2=[]) (T:=λr=>r=[]) ho rfl (by
  rintro⟨i,l⟩ o hI hb
  have hI:l=[]:=hI
  subst hI
  unfold LF73_1_16 at hb
  rcases cor hb with ⟨c,hb⟩|⟨c,hb⟩
  ·obtain⟨x,hx,hb⟩:=Xa hb
   obtain⟨v,ev,hb⟩:=Xa hb
   obtain⟨a,w,k1,k2,k3⟩:=key i x hx
   obtain⟨a',k4⟩:=h12 i x hx
   cases k1.symm.trans k4
   have hv:v=false:=Xl (I:=λst=>0<=st.2/\st.1=false) (T:=λr=>r=false) ev ⟨Int.le_refl _,rfl⟩ (by
    rintro⟨e,k⟩ o ⟨h0,he⟩ hb
    have h0:0<=k:=h0
    have he:e=false:=he
    subst he
    have hl:=hs.fh.le
    have hi:=(Zu hx).2
    unfold Vu at hb
    rcases cor hb with ⟨c,hb⟩|⟨c,hb⟩
    ·have c:=of_decide_eq_true c
     have e1:wi (k+1)=k+1:=Xv (by omega) (by unfold ln at hl;omega)
     rw[show gx (Sl.es (A,W).2) i=some false from k3]at hb
     simp only[Option.bind_some,Bool.not_false,cond_true]at hb
     unfold Zb at hb
     simp only[cond_true]at hb
     obtain⟨y,hy⟩:=gx_at (l:=Sl.es s.fh) h0 (by omega)
     obtain⟨b,w',m1,m2,m3⟩:=key k y hy
     obtain⟨b',m4⟩:=h12 k y hy
     cases m1.symm.trans m4
     rw[show gx (Sl.es (A,W).2) k=some false from m3]at hb
     simp only[Option.bind_some,Bool.not_false,cond_true]at hb
     rw[show gx (Sl.es (A,W).1) k=some b from m2,show gx (Sl.es (A,W).1) i=some a from k2]at hb
     simp only[Option.bind_some]at hb
     rw[h13 i k x y c hx hy a b k1 m1]at hb
     cases hb
     exact⟨by show 0<=wi (k+1);omega,rfl⟩
    ·unfold Zb at hb
     cases hb
     rfl)
   subst hv
   unfold Vw at hb
   obtain⟨l',hl',hb⟩:=Xa hb
   unfold Vx at hb
   cases hb
   exact f99n hl'
  ·cases hb
   rfl)
 rw[q]
end Go.Proofs.YtnjmaohblihppaaGreatDoor
namespace Go.Proofs.YtnjmaohblihppaaGreatDoor
open Go.PE Go.RowKit
set_option maxRecDepth 100000
set_option maxHeartbeats 4000000
theorem keq_iff {a b:G33}:keq33 a b=true↔a=b:=by
 unfold keq33
 cases a;cases b
 simp
theorem gfind_no {x:G33}:∀ {l:List (G33×Nat)} {i:Nat},x∉l.map Prod.fst->gfind keq33 x l i=none
 |[],_,_=>rfl
 |e::es,i,h=>by
  simp only[List.map_cons,List.mem_cons,not_or]at h
  have:keq33 x e.1=false:=by
   cases hk:keq33 x e.1 with
   |false=>rfl
   |true=>exact absurd (keq_iff.1 hk) h.1
  simp only[gfind,this,cond_false]
  exact gfind_no h.2
theorem gfind_yes {x:G33}:∀ {l:List (G33×Nat)} {i:Nat},x∈l.map Prod.fst->∃ j,gfind keq33 x l i=some j/\i<=j/\j<i+l.length
 |[],_,h=>by simp at h
 |e::es,i,h=>by
  cases hk:keq33 x e.1 with
  |true=>exact⟨i,by simp only[gfind,hk,cond_true],Nat.le_refl _,by simp⟩
  |false=>
   have:x≠e.1:=λh=>by rw[keq_iff.2 h]at hk;cases hk
   simp only[List.map_cons,List.mem_cons]at h
   obtain⟨j,h1,h2,h3⟩:=gfind_yes (i:=i+1) (h.resolve_left this)
   exact⟨j,by simp only[gfind,hk,cond_false];exact h1,by omega,by simp;omega⟩
structure Seen (m:GM G33 Bool) (l:List G33):Prop where
 ks:m.ks.map Prod.fst=l
 len:m.vs.length=l.length
 tr:∀ (i:Nat) (v:Bool),m.vs[i]?=some v->v=true
theorem seen0:Seen ⟨[],[],0⟩ []:=⟨rfl,rfl,λi v h=>by simp at h⟩
theorem Seen.get {m l x} (h:Seen m l):gmGet keq33 m x false=some false↔x∉l:=by
 unfold gmGet
 constructor
 ·intro hg hx
  rw[<-h.ks]at hx
  obtain⟨j,h1,_,h3⟩:=gfind_yes (i:=0) hx
  rw[h1]at hg
  have:=h.tr j false hg
  cases this
 ·intro hx
  rw[<-h.ks]at hx
  rw[gfind_no hx]
theorem Seen.put {m l x} (h:Seen m l) (hx:x∉l):Seen (Zg keq33 m x true) (l++[x]):=by
 have hx':=hx
 rw[<-h.ks]at hx'
 unfold Zg
 rw[gfind_no hx']
 refine⟨by simp[h.ks],by simp[h.len],λi v hv=>?_⟩
 have hv:(m.vs++[true])[i]?=some v:=hv
 rcases Nat.lt_or_ge i m.vs.length with hi|hi
 ·rw[List.getElem?_append_left hi]at hv
  exact h.tr i v hv
 ·rw[List.getElem?_append_right hi]at hv
  cases hd:i-m.vs.length with
  |zero=>rw[hd]at hv;cases hv;rfl
  |succ d=>rw[hd]at hv;simp at hv
theorem take_snoc {l:List G33} {i:Int} {x:G33} (h0:0<=i) (hx:gx l i=some x):l.take (i+1).toNat=l.take i.toNat++[x]:=by
 unfold gx at hx
 rw[if_pos h0]at hx
 have hi:=(List.getElem?_eq_some_iff.1 hx)
 obtain⟨hi,e⟩:=hi
 rw[show(i+1).toNat=i.toNat+1 by omega,List.take_succ_eq_append_getElem hi,e]
def idGood (s:G27) (x:G33):Prop:=F102 x=some true/\∃ n,F16 s x.fG=some n/\¬ x.fK>n
theorem f992 {b i j s r l} (h:F99_2 b i j s r l=some []):b=false/\l=[]:=by
 unfold F99_2 at h
 cases b with
 |false=>cases h;exact⟨rfl,rfl⟩
 |true=>
  rw[cond_true]at h
  obtain⟨q,hq,h⟩:=Xa h
  cases h
  unfold gapp at hq
  split at hq
  ·have e:=Option.some.inj hq
   exact nomatch (List.append_eq_nil_iff.1 e).2
  ·cases hq
theorem not_t {b:Bool} (h:(!b)=false):b=true:=by cases b<;>first|rfl|cases h
theorem last_nil {s v} (h:Zj s 2 v=some []):v=[]:=by
 unfold Zj at h
 obtain⟨_,_,h⟩:=Xa h
 unfold JF62_1_7 at h
 obtain⟨_,g,h⟩:=Xa h
 cases h
 exact(f992 g).2
theorem ids_fwd {s:G27} {l:Sl G33} (hn:ln l<=1000000) (hl:F14 s=some l) (h:F62_1 s 2 []=some []):(Sl.es l).Nodup/\(∀ x∈Sl.es l,idGood s x)/\Zj s 2 []=some []:=by
 unfold F62_1 at h
 rw[hl]at h
 simp only[Option.bind_some]at h
 obtain⟨r,hr,h⟩:=Xa h
 have hr0:=last_nil h
 subst hr0
 have key:=Xl (I:=λst=>st.2.1=[]->0<=st.1/\st.1<=ln l/\Seen st.2.2 ((Sl.es l).take st.1.toNat)/\((Sl.es l).take st.1.toNat).Nodup/\∀ x∈(Sl.es l).take st.1.toNat,idGood s x)
  (T:=λr=>r=[]->(Sl.es l).Nodup/\∀ x∈Sl.es l,idGood s x) hr (λ_=>⟨Int.le_refl _,ln_nn,by simpa using seen0,by simp,by simp⟩) (by
  rintro⟨i,v,m⟩ o hI hb
  have hI:v=[]->0<=i/\i<=ln l/\Seen m ((Sl.es l).take i.toNat)/\((Sl.es l).take i.toNat).Nodup/\∀ x∈(Sl.es l).take i.toNat,idGood s x:=hI
  unfold Vv at hb
  rcases cor hb with ⟨c,hb⟩|⟨c,hb⟩
  ·have c:=of_decide_eq_true c
   obtain⟨x,ex,hb⟩:=Xa hb
   obtain⟨b,eb,hb⟩:=Xa hb
   rcases cor hb with ⟨_,hb⟩|⟨c1,hb⟩
   ·obtain⟨w,g,hb⟩:=Xa hb
    cases hb
    intro e
    have e:w=[]:=e
    subst e
    exact nomatch (f99 g).1
   rw[not_t c1]at eb
   obtain⟨z,ez,hb⟩:=Xa hb
   rcases cor hb with ⟨_,hb⟩|⟨c2,hb⟩
   ·obtain⟨w,g,hb⟩:=Xa hb
    cases hb
    intro e
    have e:w=[]:=e
    subst e
    exact nomatch (f99 g).1
   subst c2
   obtain⟨n,en,hb⟩:=Xa hb
   obtain⟨w,g,hb⟩:=Xa hb
   cases hb
   intro e
   have e:w=[]:=e
   subst e
   obtain⟨k1,k2⟩:=f99 g
   obtain⟨h0,h1,h2,h3,h4⟩:=hI k2
   have e1:wi (i+1)=i+1:=Xv (by omega) (by omega)
   show 0<=wi (i+1)/\wi (i+1)<=ln l/\Seen (Zg keq33 m x true) ((Sl.es l).take (wi (i+1)).toNat)/\((Sl.es l).take (wi (i+1)).toNat).Nodup/\∀ y∈(Sl.es l).take (wi (i+1)).toNat,idGood s y
   have hx:=h2.get.1 ez
   rw[e1,take_snoc h0 ex]
   refine⟨by omega,by omega,h2.put hx,?_,?_⟩
   ·rw[List.nodup_append]
    exact⟨h3,by simp,λa ha b hb e=>hx (by rw[<-(show b=x by simpa using hb),<-e];exact ha)⟩
   ·intro y hy
    rcases List.mem_append.1 hy with hy|hy
    ·exact h4 y hy
    ·have:y=x:=by simpa using hy
     subst this
     exact⟨eb,n,en,of_decide_eq_false k1⟩
  ·cases hb
   have c:=of_decide_eq_false c
   intro e
   obtain⟨h0,h1,h2,h3,h4⟩:=hI e
   have hi:(Sl.es l).length<=i.toNat:=by unfold ln at c h1;omega
   rw[List.take_of_length_le hi]at h3 h4
   exact⟨h3,h4⟩)
 exact⟨(key rfl).1,(key rfl).2,h⟩
theorem ids_bwd {s:G27} {l:Sl G33} (hs:okG27 s) (hn:ln l<=1000000) (hl:F14 s=some l) (hnd:(Sl.es l).Nodup) (hg:∀ x∈Sl.es l,idGood s x) (hlast:Zj s 2 []=some []):F62_1 s 2 []=some []:=by
 obtain⟨r,hr,_⟩:=tF62_1 (v0:=s) (v1:=2) (v2:=[]) hs (by decide)
 rw[hr]
 unfold F62_1 at hr
 rw[hl]at hr
 simp only[Option.bind_some]at hr
 obtain⟨o,ho,hr⟩:=Xa hr
 have key:=Xl (I:=λst=>0<=st.1/\st.1<=ln l/\st.2.1=[]/\Seen st.2.2 ((Sl.es l).take st.1.toNat)) (T:=λr=>r=[]) ho ⟨Int.le_refl _,ln_nn,rfl,by simpa using seen0⟩ (by
  rintro⟨i,v,m⟩ o ⟨h0,h1,hv,hm⟩ hb
  have h0:0<=i:=h0
  have h1:i<=ln l:=h1
  have hv:v=[]:=hv
  have hm:Seen m ((Sl.es l).take i.toNat):=hm
  subst hv
  unfold Vv at hb
  rcases cor hb with ⟨c,hb⟩|⟨c,hb⟩
  ·have c:=of_decide_eq_true c
   obtain⟨x,ex,hb⟩:=Xa hb
   obtain⟨q1,n,q2,q3⟩:=hg x (gx_mem ex)
   have e1:wi (i+1)=i+1:=Xv (by omega) (by omega)
   have ht:=take_snoc h0 ex
   have hx:x∉(Sl.es l).take i.toNat:=by
    have h:((Sl.es l).take (i+1).toNat).Nodup:=hnd.sublist (List.take_sublist _ _)
    rw[ht,List.nodup_append]at h
    intro hx
    exact h.2.2 x hx x (by simp) rfl
   rw[q1]at hb
   simp only[Option.bind_some,Bool.not_true,cond_false]at hb
   rw[hm.get.2 hx]at hb
   simp only[Option.bind_some,cond_false]at hb
   rw[q2]at hb
   simp only[Option.bind_some,decide_eq_false q3]at hb
   obtain⟨w,g,hb⟩:=Xa hb
   have:=f99n g
   subst this
   cases hb
   show 0<=wi (i+1)/\wi (i+1)<=ln l/\_/\Seen (Zg keq33 m x true) ((Sl.es l).take (wi (i+1)).toNat)
   rw[e1,ht]
   exact⟨by omega,by omega,rfl,hm.put hx⟩
  ·cases hb
   rfl)
 subst key
 rw[hlast]at hr
 exact hr.symm
end Go.Proofs.YtnjmaohblihppaaGreatDoor
namespace Go.Proofs.YtnjmaohblihppaaGreatDoor
open Go.PE Go.RowKit
set_option maxRecDepth 100000
set_option maxHeartbeats 4000000
theorem w37 {s:G27} {l:Sl G126} {a b}:LF78_1_37 (wsp s l) a b=LF78_1_37 s a b:=rfl
theorem w126 {s:G27} {l:Sl G126} {a b c}:LF78_1_126 (wsp s l) a b c=LF78_1_126 s a b c:=rfl
theorem w16 {s:G27} {l:Sl G126} {v}:F16 (wsp s l) v=F16 s v:=rfl
theorem wlast {s:G27} {l:Sl G126}:Zj (wsp s l) 2 []=Zj s 2 []:=rfl
theorem r14 {a b c d e f g i s l v} (h:Vs a b c d e f g i s l=some v):v=l++[i]:=by
 unfold Vs at h
 obtain⟨q,hq,h⟩:=Xa h
 cases h
 exact gapp_one hq
theorem take_snoc' {α:Type} {l:List α} {i:Int} {x:α} (h0:0<=i) (hx:gx l i=some x):l.take (i+1).toNat=l.take i.toNat++[x]:=by
 unfold gx at hx
 rw[if_pos h0]at hx
 obtain⟨hi,e⟩:=List.getElem?_eq_some_iff.1 hx
 rw[show(i+1).toNat=i.toNat+1 by omega,List.take_succ_eq_append_getElem hi,e]
theorem ids6 {s:G27} {b r:List G33} (hs:ln s.fh<=1000000) (h:JF78_1_6 s b=some r):r=b++(Sl.es s.fh).map (·.fID):=by
 unfold JF78_1_6 at h
 obtain⟨o,ho,h⟩:=Xa h
 cases h
 exact Xl (I:=λst=>0<=st.1/\st.1<=ln s.fh/\st.2=b++((Sl.es s.fh).take st.1.toNat).map (·.fID)) (T:=λo=>o=b++(Sl.es s.fh).map (·.fID)) ho ⟨Int.le_refl _,ln_nn,by simp⟩ (by
  rintro⟨i,v⟩ o ⟨h0,h1,hv⟩ hb
  have h0:0<=i:=h0
  have h1:i<=ln s.fh:=h1
  have hv:v=b++((Sl.es s.fh).take i.toNat).map (·.fID):=hv
  unfold LF78_1_14 at hb
  rcases cor hb with ⟨c,hb⟩|⟨c,hb⟩
  ·have c:i<ln s.fh:=of_decide_eq_true c
   obtain⟨x,ex,hb⟩:=Xa hb
   obtain⟨w,ew,hb⟩:=Xa hb
   cases hb
   have e1:wi (i+1)=i+1:=Xv (by omega) (by omega)
   have ew:=r14 ew
   subst ew
   show 0<=wi (i+1)/\wi (i+1)<=ln s.fh/\v++[x.fID]=b++((Sl.es s.fh).take (wi (i+1)).toNat).map (·.fID)
   rw[e1,take_snoc' h0 ex,hv]
   exact⟨by omega,by omega,by simp⟩
  ·have c:¬ i<ln s.fh:=of_decide_eq_false c
   cases hb
   have hi:(Sl.es s.fh).length<=i.toNat:=by unfold ln at c;omega
   rw[List.take_of_length_le hi]at hv
   exact hv)
theorem f14_two {s:G27} {l:Sl G126} {p p':Sl G33} (hs:ln s.fh<=1000000) (hl:ln l<=1000000) (h:F14 s=some p) (h':F14 (wsp s l)=some p'):
  ∃ b,Sl.es p=b++(Sl.es s.fh).map (·.fID)/\Sl.es p'=b++(Sl.es l).map (·.fID):=by
 unfold F14 at h h'
 obtain⟨v,hv,h⟩:=Xa h
 obtain⟨v',hv',h'⟩:=Xa h'
 unfold JF14_2 at h h'
 cases h
 cases h'
 unfold F78_1 at hv hv'
 obtain⟨o,ho,hv⟩:=Xa hv
 obtain⟨o',ho',hv'⟩:=Xa hv'
 have e:some o'=some o:=ho'.symm.trans ((congrArg (λb=>Xh b _) (funext λx=>by
  obtain⟨x0,x1,x2⟩:=x
  exact w126)).trans ho)
 cases e
 clear ho ho'
 unfold JF78_1_4 at hv hv'
 obtain⟨q,hq,hv⟩:=Xa hv
 obtain⟨q',hq',hv'⟩:=Xa hv'
 have e:some q'=some q:=hq'.symm.trans ((congrArg (λb=>Xh b _) (funext λx=>by
  obtain⟨x0,x1⟩:=x
  exact w37)).trans hq)
 cases e
 clear hq hq'
 refine⟨q,?_,?_⟩
 ·rw[mkSl_es];exact ids6 hs hv
 ·rw[mkSl_es];exact ids6 (s:=wsp s l) hl hv'
theorem mem_gx {α:Type} {l:List α} {x:α} (h:x∈l):∃ j,gx l j=some x:=by
 obtain⟨i,hi,e⟩:=List.getElem_of_mem h
 refine⟨i,?_⟩
 unfold gx
 rw[if_pos (by omega),show((i:Int)).toNat=i by omega,List.getElem?_eq_getElem hi,e]
theorem gx_nat {α:Type} {l:List α} {i:Nat} (h:i<l.length):gx l (i:Int)=some l[i]:=by
 unfold gx
 rw[if_pos (by omega),show((i:Int)).toNat=i by omega,List.getElem?_eq_getElem h]
def Apart (s:G27) (y x:G126):Prop:=∀ a b,spF s x=some (a,false)->spF s y=some (b,false)->F126 b a=some false
theorem apart_symm {s y x} (h:Apart s y x):Apart s x y:=λa b h1 h2=>by rw[sy126];exact h b a h2 h1
theorem pw_iff {s:G27} {l:List G126}:(∀ i k x y,k<i->gx l i=some x->gx l k=some y->Apart s y x)↔l.Pairwise (Apart s):=by
 rw[List.pairwise_iff_getElem]
 constructor
 ·intro h i j hi hj hij
  exact h j i _ _ (by omega) (gx_nat hj) (gx_nat hi)
 ·intro h i k x y hki hx hy
  have hx':=Zu hx
  have hy':=Zu hy
  unfold gx at hx hy
  rw[if_pos hx'.1]at hx
  rw[if_pos hy'.1]at hy
  obtain⟨a1,a2⟩:=List.getElem?_eq_some_iff.1 hx
  obtain⟨b1,b2⟩:=List.getElem?_eq_some_iff.1 hy
  have:=h k.toNat i.toNat b1 a1 (by omega)
  rw[a2,b2]at this
  exact this
theorem valid_perm {s:G27} {l:Sl G126} (hs:okG27 s) (hx:okG27 (wsp s l)) (hp:(Sl.es l).Perm (Sl.es s.fh)) (hln:ln l=ln s.fh) (h:F13 s=some true):F13 (wsp s l)=some true:=by
 obtain⟨h1,h2,h3,h4,h5,h6,h7,h8,h9,h10,h11,h12,h13,h14,h15,h16,h17⟩:=z13 h
 have hle:=hs.fh.le
 have k12:=e12 hs h12
 have k12':∀ j x,gx (Sl.es (wsp s l).fh) j=some x->∃ a,spF (wsp s l) x=some (a,false):=by
  intro j x hj
  have hm:x∈Sl.es l:=gx_mem hj
  obtain⟨k,hk⟩:=mem_gx (hp.mem_iff.1 hm)
  rw[spF_same hs hx]
  exact k12 k x hk
 have k13:(Sl.es s.fh).Pairwise (Apart s):=pw_iff.1 (λi k x y hki hx hy a b ha hb=>e13 hs k12 h13 i k x y hki hx hy a b ha hb)
 have k13':=pw_iff.2 ((hp.pairwise_iff apart_symm).2 k13)
 have g13:Zo (wsp s l) 13 []=some []:=e13b hx k12' (λi k x y hki hxi hyk a b ha hb=>by
  rw[spF_same hs hx]at ha hb
  exact k13' i k x y hki hxi hyk a b ha hb)
 obtain⟨p,ep,bp⟩:=tF14 hs
 obtain⟨p',ep',bp'⟩:=tF14 hx
 have bp:ln p<=264321:=bp
 have bp':ln p'<=264321:=bp'
 obtain⟨b,eb,eb'⟩:=f14_two (by omega) (by omega) ep ep'
 obtain⟨n1,n2,n3⟩:=ids_fwd (by omega) ep h2
 have hpp:(Sl.es p').Perm (Sl.es p):=by
  rw[eb,eb']
  exact List.Perm.append_left b (hp.map _)
 have g2:F62_1 (wsp s l) 2 []=some []:=ids_bwd hx (by omega) ep' (hpp.nodup_iff.2 n1) (λx hxm=>n2 x (hpp.mem_iff.1 hxm)) n3
 exact back13 ((sp61 hln).trans h1) g2 ((sp63 s l).trans h3) ((sp64 s l).trans h4) ((sp65 s l).trans h5) ((sp66 s l).trans h6) ((sp67 s l).trans h7) ((sp68 s l).trans h8) ((sp69 s l).trans h9) ((sp70 s l).trans h10) ((sp71 s l).trans h11) (e12b hx k12') g13 ((sp74 s l).trans h14) ((sp75 s l).trans h15) ((sp76 s l).trans h16) ((sp77 s l).trans h17)
theorem valid_same {s:G27} {l:Sl G126} (hs:okG27 s) (hx:okG27 (wsp s l)) (hp:(Sl.es l).Perm (Sl.es s.fh)) (hln:ln l=ln s.fh):F13 (wsp s l)=F13 s:=by
 obtain⟨v,ev,_⟩:=tF13 hs
 obtain⟨v',ev',_⟩:=tF13 hx
 rw[ev,ev']
 cases v with
 |true=>exact ev'.symm.trans (valid_perm hs hx hp hln ev)
 |false=>
  cases v' with
  |false=>rfl
  |true=>
   have:=valid_perm (s:=wsp s l) (l:=s.fh) hx hs hp.symm hln.symm ev'
   have e:some true=some false:=this.symm.trans ev
   cases e
end Go.Proofs.YtnjmaohblihppaaGreatDoor
namespace Go.Proofs.YtnjmaohblihppaaGreatDoor
open Go.PE Go.RowKit
set_option maxRecDepth 100000
theorem jf6_10 {s:G27} {l:Sl G126} (hs:okG27 s) (hp:(Sl.es l).Perm (Sl.es s.fh)):JF6_10 s l=some true:=by
 have hln:ln l=ln s.fh:=by unfold ln;rw[hp.length_eq]
 have hx:okG27 (wsp s l):=⟨hs.fae,hs.fi,hs.fc,OkSl.tr (by have:=hs.fh.le;show ln l<=_;omega),hs.fB⟩
 have e:=valid_same hs hx hp hln
 obtain⟨b,eb,_⟩:=tF13 hs
 unfold JF6_10
 rw[show F13 ⟨s.fae,s.faq,s.fi,s.fc,l,s.fB⟩=some b from e.trans eb,eb]
 cases b<;>rfl
theorem jf6_3 {s:G27} {v:Int} (hs:okG27 s) (h1:0<=v) (h2:v<256):JF6_3 v s (ln s.fh==0)=some true:=by
 unfold JF6_3
 cases h0:(ln s.fh==0)with
 |true=>unfold F10;rfl
 |false=>
  have hn:ln s.fh≠0:=by simpa using h0
  have hl:=hs.fh.le
  have e1:wi v=v:=Xv (by omega) (by omega)
  obtain⟨q,eq,hq⟩:=t_gr (a:=v) (b:=ln s.fh) hn
  have q0:0<=q:=by rw[hq];exact Int.tmod_nonneg _ h1
  have q1:q<ln s.fh:=by rw[hq];exact Int.tmod_lt_of_pos _ (by omega)
  have hlen:ln s.fh=(Sl.es s.fh).length:=rfl
  obtain⟨a,ea,ha⟩:=t_gslR (x:=s.fh) (l:=q) (h:=ln s.fh) q0 (by omega) (by omega)
  obtain⟨c,ec,hc⟩:=t_gslR (x:=s.fh) (l:=0) (h:=q) (by omega) q0 (by omega)
  have ha:Sl.es a=(Sl.es s.fh).drop q.toNat:=by rw[ha,List.take_of_length_le (by omega)]
  have hc:Sl.es c=(Sl.es s.fh).take q.toNat:=by rw[hc];rfl
  have la:(Sl.es a).length<=10:=by rw[ha,List.length_drop];omega
  have lc:(Sl.es c).length<=10:=by rw[hc,List.length_take];omega
  have na:List.isEmpty (Sl.es a)=false:=by
   cases h:Sl.es a with
   |nil=>have:=congrArg List.length ha;rw[h,List.length_drop]at this;simp at this;omega
   |cons x xs=>rfl
  rw[cond_false,e1,eq]
  simp only[Option.bind_some]
  rw[ea]
  simp only[Option.bind_some,na,cond_false]
  rw[show gapp 56 [] (Sl.es a)=some (Sl.es a) by unfold gapp;rw[if_pos (by simp;omega)];rfl,ec]
  simp only[Option.bind_some]
  rw[show gapp 56 (Sl.es a) (Sl.es c)=some (Sl.es a++Sl.es c) by unfold gapp;rw[if_pos (by omega)]]
  simp only[Option.bind_some]
  refine jf6_10 hs ?_
  rw[mkSl_es,ha,hc]
  exact List.perm_append_comm.trans (by rw[List.take_append_drop])
theorem law6 {s:G27} {v:Int} (hb:big27 s) (h1:0<=v) (h2:v<256):F6 s v=some true:=by
 have j:JF6_3 v s true=some true:=by unfold JF6_3 F10;rfl
 unfold F6 F10
 simp only[Option.bind_some,Bool.not_true,cond_false]
 obtain⟨b,eb,hq⟩:=sF11 hb
 rw[eb]
 simp only[Option.bind_some]
 cases b with
 |false=>exact j
 |true=>exact jf6_3 (hq rfl) h1 h2
end Go.Proofs.YtnjmaohblihppaaGreatDoor
