/- A part of the proof. -/
import Derived.Test.YtnjmaohblihppaaGreatDoorOP2
import Derived.Test.YtnjmaohblihppaaGreatDoorTC
import Derived.Test.YtnjmaohblihppaaGreatDoorFC4
set_option linter.all false
namespace Go.Proofs.YtnjmaohblihppaaGreatDoor
open Go.PE Go.RowKit
set_option maxRecDepth 100000
theorem acall_of1 {f:FuncId} {fn:Func} {x v:Value} (hf:Tryz.prog.funcs[f]?=some fn) (h:∀ w,Calls Tryz.prog f #[x] w λe w'=>e=.returned v/\w'=w) (hv:plainV v=true:=by rfl) (hn:(fn.name != "runtime.NumGoroutine"&&fn.body.isSome)=true:=by kernel_rfl):ACall Tryz.prog f [.sc x] [] (λq k=>q=.sc v/\k=[]):=by
 simp only[Bool.and_eq_true,bne_iff_ne,ne_eq]at hn
 refine⟨⟨fn,hf,hn.1,hn.2⟩,λg w vs hI hL=>?_⟩
 obtain rfl:vs=#[x]:=by
  have h1:vs.size=1:=hL.1.symm
  apply Array.ext (by simpa using h1)
  intro i hi hj
  obtain rfl:i=0:=by simp at hj;exact hj
  have:=hL.2 0 (.sc x) vs[0] rfl (Array.getElem?_eq_getElem hi)
  cases this with|sc _=>rfl
 exact(h w).mono λe w' ⟨he,hw⟩=>⟨v,.sc v,[],g,he,⟨rfl,rfl⟩,by rw[hw];exact Step.refl _ _ _,Nat.le_refl _,by rw[hw];exact hI,.sc hv⟩
def dig (n:Nat):ByteArray:=⟨#[(48+n).toUInt8]⟩
theorem w175 (n:Nat) (hn:n=0\/n=2) (w:World):Calls Tryz.prog 175 #[.int .i64 n] w λe w'=>e=.returned (.string (dig n))/\w'=w:=by
 rcases hn with rfl|rfl
 ·go_enter Tryz.func175,Tryz.ntmps175
  go_wp2_with fail
  go_ret
  exact⟨rfl,rfl⟩
 ·go_enter Tryz.func175,Tryz.ntmps175
  go_wp2_with fail
  go_ret
  exact⟨rfl,rfl⟩
theorem w141 (n:Nat) (hn:n=0\/n=2) (w:World):Calls Tryz.prog 141 #[.int .i64 n,.int .i64 10] w λe w'=>e=.returned (.string (dig n))/\w'=w:=by
 rcases hn with rfl|rfl
 ·go_enter Tryz.func141,Tryz.ntmps141
  go_wp2_with fail
  refine(w175 0 (.inl rfl) _).mono ?_
  rintro e w1 ⟨rfl,rfl⟩
  go_wp2_with fail
  go_ret
  exact⟨rfl,rfl⟩
 ·go_enter Tryz.func141,Tryz.ntmps141
  go_wp2_with fail
  refine(w175 2 (.inr rfl) _).mono ?_
  rintro e w1 ⟨rfl,rfl⟩
  go_wp2_with fail
  go_ret
  exact⟨rfl,rfl⟩
theorem w98 (n:Nat) (hn:n=0\/n=2) (w:World):Calls Tryz.prog 98 #[.int .i64 n] w λe w'=>e=.returned (.string (dig n))/\w'=w:=by
 go_enter Tryz.func98,Tryz.ntmps98
 go_wp2_with fail
 refine(w141 n hn _).mono ?_
 rintro e w1 ⟨rfl,rfl⟩
 go_wp2_with fail
 go_ret
 exact⟨rfl,rfl⟩
theorem w60 (n:Nat) (hn:n=0\/n=2) (w:World):Calls Tryz.prog 60 #[.int .i64 n] w λe w'=>e=.returned (.string (dig n))/\w'=w:=by
 go_enter Tryz.func60,Tryz.ntmps60
 go_wp2_with fail
 refine(w98 n hn _).mono ?_
 rintro e w1 ⟨rfl,rfl⟩
 go_wp2_with fail
 go_ret
 exact⟨rfl,rfl⟩
theorem C60 (n:Nat) (hn:n=0\/n=2):ACall Tryz.prog 60 [iP n] [] (λq k=>q=sP (dig n)/\k=[]):=acall_of1 Tryz.func60 (w60 n hn)
end Go.Proofs.YtnjmaohblihppaaGreatDoor
namespace Go.Proofs.YtnjmaohblihppaaGreatDoor
open Go.PE Go.RowKit
set_option maxRecDepth 100000
set_option maxHeartbeats 4000000
def exM:G64:=⟨⟨0,3⟩,⟨4,4,⟨0,0,0,0,0,0⟩⟩,0,0,false,0,0,0,0,0,0,⟨#[]⟩,.nil,.full [⟨.nil,.full [⟨.full [⟨⟨0,4⟩,3,⟨0,0⟩,.nil,.nil,0,0,0,.nil,0,0⟩],.nil⟩]⟩]⟩
def ex (clef:Int):G27:=⟨⟨#[]⟩,false,.full [⟨⟨0,1⟩,⟨#[]⟩,⟨0,0⟩,.full [⟨⟨0,2⟩,clef⟩]⟩],.full [exM],.nil,.full [⟨0,4⟩]⟩
def exs:List PV:=[sP ⟨#[]⟩,bP false,.sl false .full 6 [[iP 0,iP 1,sP ⟨#[]⟩,iP 0,iP 0,.bs 2 0 1 3 true]],eS 22 c64 (.full [exM]),eS 7 c126 .nil,eS 2 c33 (.full [⟨0,4⟩])]
def exH:List Blk:=[.cells exs,.cells (c64 exM),.cells [iP 0,iP 2,iP 1]]
theorem C28:ACall Tryz.prog 28 [] [] (λq h=>q=.agg exs/\h=exH):=by
 refine gC Tryz.func28 ?_
 exact Xk [re 1,re 5,re 9,re 12] .ret [(0,.bp 0 0)] exH λe hw=>⟨.inr rfl,_,_,hw,.agg exs,by kernel_rfl,.inl ⟨rfl,rfl⟩⟩
def exF (c:Int):List Blk:=[.cells exs,.cells (c64 exM),.cells [iP 0,iP 2,iP c],.cells exs]
def cS (s:ByteArray):List PV:=[sP s]
instance:ClsC cS:=⟨λx=>(ClL.h:Cls [sP x])⟩
def nms:Sl ByteArray:=.full (["limits","ids","structure","clefs","metres","voices","tuplets","events","pitches","ties","lyrics","ends","nesting","repeats","jumps","tempi","margins"].map String.toUTF8)
theorem C97:A0 97 [] (eS 1 cS nms):=by
 refine gC Tryz.func97 ?_
 exact gE [re 1,re 2]
theorem C59:A0 59 [iP 4] (.tup [sP "clefs".toUTF8,iP 0]):=by
 refine gC Tryz.func59 ?_
 exact gE [re 2,.r (es 1 (kC (CF52 (v0:=4) (v1:=1) (v2:=17) (out:=true) rfl)::es 1 [])) [],bF,.r (kC C97::es 6 []) []]
theorem C29:A0 29 [.agg (c35 ⟨4,⟨0,2⟩⟩)] (sP ⟨#[99,108,101,102,115,32,64,48,46,50]⟩):=by
 refine gC Tryz.func29 ?_
 exact gE [re 2,.r (es 2 (kC C59::es 5 [])) [],.r (es 3 (rq 4 (bq (t:=false) (b:=false) rfl) (es 1 []))) [],bF,.r (es 5 (kC (C60 0 (.inl rfl))::es 5 (kC (C60 2 (.inr rfl))::[]))) (es 2 [])]
def F10:Option (Bool):=some true
theorem h13:F13 (ex 1)=some true:=by kernel_rfl
theorem h12:F12 (ex 10)=some (.no [⟨4,⟨0,2⟩⟩]):=by kernel_rfl
def n28:BN Tryz.prog:=⟨.st (.call (.c (.fn (.func 28) [] [])) []) [] (.agg exs) exH 0,⟨.inl C28,Nat.zero_le _,λk hk=>absurd hk (Nat.not_lt_zero k)⟩⟩
def n13:BN Tryz.prog:=⟨.st (.call (.c (.fn (.func 13) [] [])) [.c (.agg exs)]) (exF 1) (bP true) (exF 1) 0,⟨.inl (call_frz 10 (CF13 h13)),Nat.le_refl _,λk hk=>absurd hk (Nat.not_lt_zero k)⟩⟩
theorem CF10 {out} (hF:F10=some out):A0 10 [] (bP out):=by
 obtain rfl:=Option.some.inj hF
 refine gC Tryz.func10 ?_
 refine gPW 3 [re 1,.r (n28::es 2 []) [],.r (es 1 (n13::es 1 [])) [],bF,re 8] [(1,.bp 3 0)] (exF 10) [(1,.ip (c27 (ex 10)))] [] (weak_frz 10 _) ?_
 exact gE [.r (es 1 (kC (CF12 h12)::es 1 [])) [],.r (es 4 (rq 6 bqT (es 2 (rq 3 bqT (bqT::kC C29::bqT::es 3 []))))) []]
end Go.Proofs.YtnjmaohblihppaaGreatDoor
