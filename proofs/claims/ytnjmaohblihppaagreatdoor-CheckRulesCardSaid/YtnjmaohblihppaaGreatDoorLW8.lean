/- A part of the proof. -/
import Derived.Test.YtnjmaohblihppaaGreatDoorFL8
import Derived.Test.YtnjmaohblihppaaGreatDoorFS
set_option linter.all false
namespace Go.Proofs.YtnjmaohblihppaaGreatDoor
open Go.PE Go.RowKit
set_option maxRecDepth 100000
theorem keep_at {r:Int} {K:List Vn} {i:Nat} {x:Vn} (hx:K[i]?=some x) (hr:x.fi=r):(Yb r K)[(Yb r (K.take i)).length]?=some x:=by
 have hi:=(List.getElem?_eq_some_iff.1 hx).1
 have e:K=K.take i++x::K.drop (i+1):=by
  have e1:K[i]=x:=(List.getElem?_eq_some_iff.1 hx).2
  rw[<-e1,List.getElem_cons_drop,List.take_append_drop]
 have e2:Yb r K=Yb r (K.take i)++x::Yb r (K.drop (i+1)):=by
  conv=>lhs;rw[e]
  unfold Yb
  rw[List.filter_append,List.filter_cons_of_pos (by simpa using hr)]
 rw[e2,List.getElem?_append_right (Nat.le_refl _),Nat.sub_self]
 rfl
theorem keep_len {r:Int} {K:List Vn} {i:Nat} {x:Vn} (hx:K[i]?=some x):(Yb r (K.take (i+1))).length=(Yb r (K.take i)).length+if x.fi=r then 1 else 0:=by
 have hi:=(List.getElem?_eq_some_iff.1 hx).1
 have e:nthV K i=x:=by unfold nthV;rw[List.getD_eq_getElem?_getD,hx];rfl
 rw[Vt hi,e,List.length_append]
 split<;>simp
theorem keep_le {r:Int} {K:List Vn} (i:Nat):(Yb r (K.take i)).length<=200\/200<K.length:=by
 by_cases h:200<K.length
 ·exact .inr h
 ·left
  refine Nat.le_trans (List.length_filter_le _ _) ?_
  rw[List.length_take];omega
theorem loop8 {v7:Sl Vn} {r:Int} {v14:Sl Vn×Int} (hK:(Sl.es v7).length<=200) (h14:Sl.es v14.1=Yb r (Sl.es v7)):
  Xj (λ(x:Int×Int)=>match x with|(v23,v24)=>LF8_30 v7 r v14 v23 v24) (0,0)=some (.inr ((Yb r (Sl.es v7)).length:Int)):=by
 generalize hKe:Sl.es v7=K at *
 have hln:ln v7=K.length:=by unfold ln;rw[hKe]
 have hln2:ln v14.1=(Yb r K).length:=by unfold ln;rw[h14]
 have key:Tot (Xj (λ(x:Int×Int)=>match x with|(v23,v24)=>LF8_30 v7 r v14 v23 v24) (0,0)) (λo=>o=.inr ((Yb r K).length:Int)):=by
  refine t_cnt (λ(x:Int×Int)=>x.2) (ln v7) (by unfold maxLen;omega) (λx=>x.1=((Yb r (K.take x.2.toNat)).length:Int)) (T:=λ(o:Unit⊕Int)=>o=.inr ((Yb r K).length:Int)) (by decide) (by rw[hln];omega) (by simp[Yb]) ?_
  rintro⟨n,i⟩ hn h0 h1
  have hn:n=((Yb r (K.take i.toNat)).length:Int):=hn
  have h0:0<=i:=h0
  have h1:i<=ln v7:=h1
  show Tot (LF8_30 v7 r v14 n i) _
  unfold LF8_30
  by_cases c:i<ln v7
  ·rw[decide_eq_true c,cond_true]
   have hi:i.toNat<K.length:=by omega
   have hx:K[i.toNat]?=some K[i.toNat]:=List.getElem?_eq_getElem hi
   generalize K[i.toNat]=x at hx
   have hg:gx (Sl.es v7) i=some x:=by unfold gx;rw[if_pos h0,hKe,hx]
   have e1:wi (i+1)=i+1:=Xz (by omega) (by omega)
   have e2:(i+1).toNat=i.toNat+1:=by omega
   have hk:=keep_len (r:=r) hx
   have hle:(Yb r (K.take i.toNat)).length<=200:=by
    rcases keep_le (r:=r) (K:=K) i.toNat with h|h<;>omega
   rw[hg]
   simp only[Option.bind_some]
   by_cases hr:x.fi=r
   ·rw[show(x.fi !=r)=false by simp[hr],cond_false]
    have ha:=keep_at hx hr
    have hlt:=(List.getElem?_eq_some_iff.1 ha).1
    rw[if_pos hr]at hk
    have hg2:gx (Sl.es v14.1) n=some x:=by
     unfold gx
     rw[if_pos (by omega),h14,hn]
     simpa using ha
    rw[decide_eq_false (by rw[hln2];omega),cond_false,hg2]
    simp only[Option.bind_some,BEq.rfl,Bool.and_self,Bool.not_true]
    unfold JF8_38 JF8_33
    rw[cond_false]
    refine Xd ⟨?_,e1,c⟩
    show wi (n+1)=((Yb r (K.take (wi (i+1)).toNat)).length:Int)
    rw[e1,e2,hk,Xz (by omega) (by omega),hn]
    omega
   ·rw[show(x.fi !=r)=true by simp[hr],cond_true]
    rw[if_neg hr]at hk
    unfold JF8_33
    refine Xd ⟨?_,e1,c⟩
    show n=((Yb r (K.take (wi (i+1)).toNat)).length:Int)
    rw[e1,e2,hk,hn]
    omega
  ·rw[decide_eq_false c,cond_false]
   refine Xd ?_
   show(Sum.inr n:Unit⊕Int)=_
   rw[hn,List.take_of_length_le (by omega)]
 obtain⟨o,e,rfl⟩:=key
 exact e
theorem loop_stop {σ τ:Type} {body:σ->Option (σ⊕τ)} {s:σ} {t:τ} (h:body s=some (.inr t)):Xj body s=some t:=by
 show iterO body (18446744073709551615+1) s=some t
 rw[iterO,h]
theorem f24 {s:G27} {out:Sl Vn} (h:F32 s=some out):F24 s=some (match Sl.es out with|[]=>(vz,false)|x::_=>(x,true)):=by
 unfold F24
 rw[h]
 simp only[Option.bind_some]
 cases hL:Sl.es out with
 |nil=>
  have e:LF24_12 out 0=some (.inr (.inr ())):=by
   unfold LF24_12
   rw[decide_eq_false (by unfold ln;rw[hL];simp),cond_false]
  rw[loop_stop e]
  rfl
 |cons x l=>
  have e:LF24_12 out 0=some (.inr (.inl (x.fi,x.fm.fp,x.fm.fq))):=by
   unfold LF24_12
   rw[decide_eq_true (by unfold ln;rw[hL];simp),cond_true]
   have hg:gx (Sl.es out) 0=some x:=by unfold gx;rw[if_pos (Int.le_refl _),hL];rfl
   rw[hg]
   rfl
  rw[loop_stop e]
  rfl
theorem f12 {s:G27} {out:Sl Vn} (h:F32 s=some out):∃ v7,F12 s=some v7/\Sl.es v7=(Sl.es out).take 200:=by
 unfold F12
 rw[h]
 simp only[Option.bind_some]
 have hn:ln out=((Sl.es out).length:Int):=rfl
 by_cases c:200<ln out
 ·rw[if_pos c]
  obtain⟨y,e,hy⟩:=t_gslR (x:=out) (l:=0) (h:=200) (Int.le_refl _) (by omega) (by omega)
  rw[e]
  exact⟨y,rfl,by rw[hy];rfl⟩
 ·rw[if_neg c]
  obtain⟨y,e,hy⟩:=t_gslR (x:=out) (l:=0) (h:=ln out) (Int.le_refl _) (by omega) (by omega)
  rw[e]
  refine⟨y,rfl,?_⟩
  rw[hy,hn,Int.toNat_natCast,List.take_of_length_le (Nat.le_refl _),List.take_of_length_le (by omega)]
  rfl
theorem es_delS (r:Int) (l:List Vn):Sl.es (delS r l)=Yb r (l.take 200):=by
 cases l with
 |nil=>rfl
 |cons x l=>rfl
theorem f52b (r:Int):F52 r 1 17=some (decide (1<=r/\r<=17)):=by
 unfold F52
 by_cases a:r>=1
 ·rw[decide_eq_true a,cond_true]
  congr 1
  exact decide_eq_decide.2 ⟨λh=>⟨a,h⟩,λh=>h.2⟩
 ·rw[decide_eq_false a,cond_false,decide_eq_false (by omega)]
theorem j12 {s:G27} {r:Int} {v7 out:Sl Vn} (h:F32 s=some out) (hl:(Sl.es out).length<=10000000) (h7:Sl.es v7=(Sl.es out).take 200):JF8_12 s r v7 false=some true:=by
 have h25:F25 s r=some (bif decide (1<=r/\r<=17)then (delS r (Sl.es out),0)else (.nil,11)):=by
  unfold F25
  rw[h]
  simp only[Option.bind_some]
  rw[decide_eq_true hl,cond_true,f52b]
  cases decide (1<=r/\r<=17)<;>rfl
 unfold JF8_12
 rw[cond_false,h25]
 simp only[Option.bind_some]
 by_cases a:r<1
 ·rw[decide_eq_true a,cond_true,decide_eq_false (by omega)]
  rfl
 rw[decide_eq_false a,cond_false]
 by_cases b:r>17
 ·rw[decide_eq_true b,decide_eq_false (by omega)]
  rfl
 rw[decide_eq_false b,decide_eq_true (by omega),cond_true]
 unfold JF8_17
 rw[cond_false]
 have h14:Sl.es (delS r (Sl.es out),(0:Int)).1=Yb r (Sl.es v7):=by rw[h7];exact es_delS _ _
 rw[loop8 (by rw[h7,List.length_take];omega) h14]
 show JF8_21 _ _=some true
 unfold JF8_21
 rw[show ln (delS r (Sl.es out),(0:Int)).1=((Yb r (Sl.es v7)).length:Int) by unfold ln;rw[h14]]
 simp
theorem law8 {s:G27} (r:Int) (hb:big27 s):F8 s r=some true:=by
 unfold F8 F10
 simp only[Option.bind_some,Bool.not_true,cond_false]
 have j2:JF8_3 s r true=some true:=by unfold JF8_3 F10;rfl
 obtain⟨b,eb,hq⟩:=sF11 hb
 rw[eb]
 simp only[Option.bind_some]
 cases b with
 |false=>exact j2
 |true=>
  have hs:=hq rfl
  obtain⟨out,eo,hlo⟩:=tF32 hs
  have hl:(Sl.es out).length<=10000000:=by unfold ln at hlo;omega
  obtain⟨v7,e7,h7⟩:=f12 eo
  have hj:=j12 (r:=r) eo hl h7
  have h13:F13 s=some (ln out==0):=by unfold F13;rw[eo];rfl
  rw[Bool.not_true]
  unfold JF8_3
  rw[cond_false,e7]
  simp only[Option.bind_some]
  rw[f24 eo]
  simp only[Option.bind_some]
  rw[h13]
  simp only[Option.bind_some]
  have n7:ln v7=((Sl.es out).take 200).length:=by unfold ln;rw[h7]
  cases hL:Sl.es out with
  |nil=>
   rw[hL]at n7 h7
   have n7:ln v7=0:=n7
   have no:ln out=0:=by unfold ln;rw[hL];rfl
   rw[n7,no]
   exact hj
  |cons x l=>
   rw[hL]at n7 h7
   have n7:0<ln v7:=by rw[n7,List.length_take];simp;try omega
   have no:0<ln out:=by unfold ln;rw[hL];simp
   have hg:gx (Sl.es v7) 0=some x:=by unfold gx;rw[if_pos (Int.le_refl _),h7];rfl
   rw[show(ln out==0)=false from beq_eq_false_iff_ne.2 (by omega),show(ln v7==0)=false from beq_eq_false_iff_ne.2 (by omega),decide_eq_true n7]
   rw[hg]
   simp only[Option.bind_some,BEq.rfl,Bool.and_self,Bool.not_true,cond_true,cond_false]
   exact hj
end Go.Proofs.YtnjmaohblihppaaGreatDoor
