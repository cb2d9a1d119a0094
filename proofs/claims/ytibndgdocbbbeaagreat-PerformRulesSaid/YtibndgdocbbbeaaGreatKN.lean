/- A part of the proof. -/
import Derived.Test.YtibndgdocbbbeaaGreatSY10
import Derived.Test.YtibndgdocbbbeaaGreatPE20
import Derived.Test.YtibndgdocbbbeaaGreatFC4
import Derived.Shelf.Spec.BitsCarry
import Derived.KernelRfl
set_option linter.all false
namespace Go.PE
open Go.RowKit
def tabC (P:Program):FuncId->Option AF:=λf=>match P.funcs[f]? with
 |some fn=>(match okF P fn with
  |true=>some ⟨fn.ntmps,acOf P fn,rsOf P fn⟩
  |false=>none)
 |none=>none
theorem tabC_ok {P:Program}:TabOk P (tabC P):=by
 intro f af h
 unfold tabC at h
 split at h
 ·rename_i fn hf
  split at h
  ·rename_i hk
   cases h
   unfold okF at hk
   split at hk
   ·rename_i c hc
    simp only[Bool.and_eq_true,bne_iff_ne,ne_eq]at hk
    obtain⟨⟨h1,h2⟩,h3⟩:=hk
    obtain⟨a,ha⟩:=Option.isSome_iff_exists.1 h1
    obtain⟨r,hr⟩:=Option.isSome_iff_exists.1 h2
    refine⟨fn,c,hf,h3,hc,?_,?_,rfl⟩
    ·simp only[acOf,hc,ha,Option.getD_some]
    ·simp only[rsOf,hr,Option.getD_some]
   ·cases hk
  ·cases h
 ·cases h
theorem Vu {P:Program} {f:Nat} {args:List PV} {r:PV} (ha:args.all (Ym 60)=true) (hr:Ym 60 r=true) (h:ACall P f args [] (λr' H'=>r'=r/\H'=[])):FactOk P ⟨f,args,r⟩:=λH=>.inl (frame_call ha hr h H)
theorem acall_of_run {P:Program} {pre:FuncId->List PV->Option PV} {tab:FuncId->Option AF} (hmix:P.follows .mixedOrders=true) (hp:PreOk P pre) (ht:TabOk P tab) (n:Nat) {f:Nat} {args:List PV} {r:PV} {cut:Bool} {lo:Nat}
  (h:gF pre tab n cut (.fn f true) args []=some (r,[],lo)):ACall P f args [] (λr' H'=>r'=r/\H'=[]):=
 (evF_sound hmix hp ht n cut (.fn f true) args [] _ _ _ (hOk0 P) (gF_le pre tab n _ _ _ _ _ h)).1
end Go.PE
namespace Go.Proofs.YtibndgdocbbbeaaGreat
open Go.PE Go.RowKit
set_option maxRecDepth 100000
set_option maxHeartbeats 4000000
def voP (a d:Int):G100:=⟨.full [⟨⟨0,4⟩,1,⟨2,0⟩,.full [⟨⟨0,0,4⟩,false,0⟩],.nil,a,0,d,.nil,0,0⟩],.nil⟩
def exP (a d:Int):G27:=⟨⟨#[]⟩,false,.full [⟨⟨0,1⟩,⟨#[]⟩,⟨0,0⟩,.full [⟨⟨0,2⟩,1⟩]⟩],.full [⟨⟨0,3⟩,⟨1,4,⟨0,0,0,0,0,0⟩⟩,0,0,false,0,0,0,0,0,0,⟨#[]⟩,.nil,.full [⟨.nil,.full [voP a d]⟩]⟩],.nil,.full [⟨0,4⟩]⟩
def sA:PV:=.agg (c27 (exP 0 0))
def sB:PV:=.agg (c27 (exP 4 6))
def facts1:List Fact:=[⟨14,[sA],bP true⟩,⟨14,[sB],bP true⟩,⟨188,[.agg (c100 (voP 0 0)),iP 483840],.tup [eS 1 cI (.no [483840]),iP 0]⟩,⟨188,[.agg (c100 (voP 4 6)),iP 483840],.tup [eS 1 cI (.no [483840]),iP 0]⟩]
def st:PV:=.tup [.sl false .no 1 [[iP 0],[iP 483840]],iP 0]
def r51:PV:=.tup [.sl false .no 2 [[iP 0,iP 0]],iP 0]
def r103:PV:=.tup [.sl false .no 10 [[iP 1,iP 0,iP 1,iP 4,iP 0,iP 0,iP 0,iP 0,iP 0,iP 0]],iP 0]
def r39:PV:=.tup [.sl false .full 3 [[iP (-1),iP 500000,bP false]],.sl false .no 1 [[iP 0],[iP 483840]]]
def r10:PV:=.tup [.sl false .no 1 [[iP 50]],iP 0]
def r26:PV:=.tup [.sl false .no 7 [[iP 0,iP 475000,iP 60,iP 76,iP 0,iP 0,iP 4]],iP 0]
def r27:PV:=.tup [iP 106,iP 0]
def facts2:List Fact:=[⟨47,[sA],st⟩,⟨47,[sB],st⟩,⟨51,[sA],r51⟩,⟨103,[sA,iP 0],r103⟩,⟨39,[sA],r39⟩,⟨10,[sA],r10⟩]++facts1
def facts3:List Fact:=[⟨26,[sA],r26⟩,⟨27,[sB,.agg [iP 0,iP 4]],r27⟩]
theorem addC (x y c:Nat) (hc:c<=1) (w:World):(callFunc 177 #[.int .u64 x,.int .u64 y,.int .u64 c]).run Tryz.prog w=.ok (.value (.tuple #[.int .u64 (((x+y+c)%18446744073709551616:Nat):Int),.int .u64 (((x+y+c) / 18446744073709551616:Nat):Int)])) w:=by
 rw[run_callFunc_extern Tryz.func177 (by kernel_rfl) (by kernel_rfl) (by kernel_rfl) (e:=add64Entry) (by kernel_rfl),run_add64 x y c (by omega) (by omega) (by omega) (by omega)]
 simp only[Result.andThen]
 congr 5<;>omega
def pre1:FuncId->List PV->Option PV:=preA 177 (preL facts1)
def pre2:FuncId->List PV->Option PV:=preA 177 (preL facts2)
def pre3:FuncId->List PV->Option PV:=preA 177 (preL facts3)
theorem v0:F14 (exP 0 0)=some true:=by kernel_rfl
theorem v1:F14 (exP 4 6)=some true:=by kernel_rfl
theorem u0:F188 (voP 0 0) 483840=some (.no [483840],0):=by kernel_rfl
theorem u1:F188 (voP 4 6) 483840=some (.no [483840],0):=by kernel_rfl
theorem ok1:∀ x∈facts1,FactOk Tryz.prog x:=List.forall_mem_cons.2 ⟨Vu (by kernel_rfl) (by kernel_rfl) (CF14 v0),List.forall_mem_cons.2 ⟨Vu (by kernel_rfl) (by kernel_rfl) (CF14 v1),List.forall_mem_cons.2 ⟨Vu (by kernel_rfl) (by kernel_rfl) (CF188 u0),List.forall_mem_cons.2 ⟨Vu (by kernel_rfl) (by kernel_rfl) (CF188 u1),λ_ h=>by cases h⟩⟩⟩⟩
theorem pre1_ok:PreOk Tryz.prog pre1:=preA_ok (preL_ok ok1) addC
theorem g47a:gF pre1 (tabC Tryz.prog) 200 true (.fn 47 true) [sA] []=some (st,[],0):=by kernel_rfl
theorem g47b:gF pre1 (tabC Tryz.prog) 200 true (.fn 47 true) [sB] []=some (st,[],0):=by kernel_rfl
theorem g51:gF pre1 (tabC Tryz.prog) 200 true (.fn 51 true) [sA] []=some (r51,[],0):=by kernel_rfl
theorem g103:gF pre1 (tabC Tryz.prog) 200 true (.fn 103 true) [sA,iP 0] []=some (r103,[],0):=by kernel_rfl
theorem g39:gF pre1 (tabC Tryz.prog) 200 true (.fn 39 true) [sA] []=some (r39,[],0):=by kernel_rfl
theorem g10:gF pre1 (tabC Tryz.prog) 200 true (.fn 10 true) [sA] []=some (r10,[],0):=by kernel_rfl
theorem fa {f:Nat} {a:List PV} {r:PV} (h:gF pre1 (tabC Tryz.prog) 200 true (.fn f true) a []=some (r,[],0)) (ha:a.all (Ym 60)=true:=by kernel_rfl) (hr:Ym 60 r=true:=by kernel_rfl):FactOk Tryz.prog ⟨f,a,r⟩:=fact_of_run mixed pre1_ok tabC_ok 200 ha hr h
theorem ok2:∀ x∈facts2,FactOk Tryz.prog x:=List.forall_mem_append.2 ⟨List.forall_mem_cons.2 ⟨fa g47a,List.forall_mem_cons.2 ⟨fa g47b,List.forall_mem_cons.2 ⟨fa g51,List.forall_mem_cons.2 ⟨fa g103,List.forall_mem_cons.2 ⟨fa g39,List.forall_mem_cons.2 ⟨fa g10,λ_ h=>by cases h⟩⟩⟩⟩⟩⟩,ok1⟩
theorem pre2_ok:PreOk Tryz.prog pre2:=preA_ok (preL_ok ok2) addC
theorem g26:gF pre2 (tabC Tryz.prog) 200 true (.fn 26 true) [sA] []=some (r26,[],0):=by kernel_rfl
theorem g27:gF pre2 (tabC Tryz.prog) 200 true (.fn 27 true) [sB,.agg [iP 0,iP 4]] []=some (r27,[],0):=by kernel_rfl
theorem ok3:∀ x∈facts3,FactOk Tryz.prog x:=List.forall_mem_cons.2 ⟨fact_of_run mixed pre2_ok tabC_ok 200 (by kernel_rfl) (by kernel_rfl) g26,List.forall_mem_cons.2 ⟨fact_of_run mixed pre2_ok tabC_ok 200 (by kernel_rfl) (by kernel_rfl) g27,λ_ h=>by cases h⟩⟩
theorem pre3_ok:PreOk Tryz.prog pre3:=preA_ok (preL_ok ok3) addC
theorem runK:gF pre3 (tabC Tryz.prog) 200 false (.fn 25 true) [] []=some (bP true,[],0):=by kernel_rfl
def F25:Option Bool:=some true
theorem CF25 {out} (hF:F25=some out):A0 25 [] (bP out):=by
 obtain rfl:=Option.some.inj hF
 exact acall_of_run mixed pre3_ok tabC_ok 200 runK
def F26 (v0:G27):Option ((Sl G123)×Int):=(F14 v0).bind λb=>bif !b then some (.nil,24)else none
theorem CF26 {v0 out} (hF:F26 v0=some out):A0 26 [.agg (c27 v0)] (.tup [eS 7 c123 out.1,iP out.2]):=by
 unfold F26 at hF
 refine gC Tryz.func26 ?_
 obtain⟨v1,h2,hF⟩:=Xa hF
 rcases cor hF with ⟨h3,hF⟩|⟨h3,hF⟩
 ·obtain rfl:=soj hF
  exact gE [re 3,.r (es 1 (kC (CF14 h2)::es 1 [])) [],bb h3,re 2]
 ·cases hF
def F27 (v0:G27) (v1:G58):Option (Int×Int):=(F14 v0).bind λb=>bif !b then some (0,24)else none
theorem CF27 {v0 v1 out} (hF:F27 v0 v1=some out):A0 27 [.agg (c27 v0),.agg (c58 v1)] (.tup [iP out.1,iP out.2]):=by
 unfold F27 at hF
 refine gC Tryz.func27 ?_
 obtain⟨v1,h2,hF⟩:=Xa hF
 rcases cor hF with ⟨h3,hF⟩|⟨h3,hF⟩
 ·obtain rfl:=soj hF
  exact gE [re 4,.r (es 1 (kC (CF14 h2)::es 1 [])) [],bb h3,re 2]
 ·cases hF
end Go.Proofs.YtibndgdocbbbeaaGreat
