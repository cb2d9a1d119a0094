/- A part of the proof. -/
import Derived.Test.YtibndgdocbbbeaaGreatSY8
set_option linter.all false
set_option maxRecDepth 100000
set_option maxHeartbeats 40000000
set_option synthInstance.maxSize 100000
namespace Go.Proofs.YtibndgdocbbbeaaGreat
open Go.PE
noncomputable section
structure G90 where
 fN:Int
 fE:Int
 fj:Int
 fTo:Int
 f8:Int
instance:Inhabited G90:=⟨⟨default,default,default,default,default⟩⟩
def c90 (x:G90):List PV:=[(iP x.fN),(iP x.fE),(iP x.fj),(iP x.fTo),(iP x.f8)]
theorem cl90 (x:G90):Cls (c90 x):=by unfold c90;exact ClL.h
instance:ClsC c90:=⟨cl90⟩
instance {x:G90}:ClL (c90 x):=⟨cl90 x⟩
structure G119 where
 faQ:(Sl G90)
 faE:(Sl Int)
instance:Inhabited G119:=⟨⟨default,default⟩⟩
def c119 (x:G119):List PV:=[(eS 5 c90 x.faQ),(eS 1 cI x.faE)]
theorem cl119 (x:G119):Cls (c119 x):=by unfold c119;exact ClL.h
instance:ClsC c119:=⟨cl119⟩
instance {x:G119}:ClL (c119 x):=⟨cl119 x⟩
structure G425 where
 fav:Int
 fI:Int
 fap:Int
 far:Int
instance:Inhabited G425:=⟨⟨default,default,default,default⟩⟩
def c425 (x:G425):List PV:=[(iP x.fav),(iP x.fI),(iP x.fap),(iP x.far)]
theorem cl425 (x:G425):Cls (c425 x):=by unfold c425;exact ClL.h
instance:ClsC c425:=⟨cl425⟩
instance {x:G425}:ClL (c425 x):=⟨cl425 x⟩
structure G58 where
 fM:Int
 fU:Int
instance:Inhabited G58:=⟨⟨default,default⟩⟩
def c58 (x:G58):List PV:=[(iP x.fM),(iP x.fU)]
theorem cl58 (x:G58):Cls (c58 x):=by unfold c58;exact ClL.h
instance:ClsC c58:=⟨cl58⟩
instance {x:G58}:ClL (c58 x):=⟨cl58 x⟩
def kv58 (x:G58):Value:=.agg #[.int .i64 x.fM,.int .i64 x.fU]
def keq58 (a b:G58):Bool:=(a.fM==b.fM&&(a.fU==b.fU&&true))
structure G65 where
 fak:Int
 fac:Int
instance:Inhabited G65:=⟨⟨default,default⟩⟩
def c65 (x:G65):List PV:=[(iP x.fak),(iP x.fac)]
theorem cl65 (x:G65):Cls (c65 x):=by unfold c65;exact ClL.h
instance:ClsC c65:=⟨cl65⟩
instance {x:G65}:ClL (c65 x):=⟨cl65 x⟩
structure G184 where
 fID:G58
 faI:Int
instance:Inhabited G184:=⟨⟨default,default⟩⟩
def c184 (x:G184):List PV:=[(iP x.fID.fM),(iP x.fID.fU),(iP x.faI)]
theorem cl184 (x:G184):Cls (c184 x):=by unfold c184;exact ClL.h
instance:ClsC c184:=⟨cl184⟩
instance {x:G184}:ClL (c184 x):=⟨cl184 x⟩
structure G68 where
 fID:G58
 faz:ByteArray
 faJ:G65
 fx:(Sl G184)
instance:Inhabited G68:=⟨⟨default,default,default,default⟩⟩
def c68 (x:G68):List PV:=[(iP x.fID.fM),(iP x.fID.fU),(sP x.faz),(iP x.faJ.fak),(iP x.faJ.fac),(eS 3 c184 x.fx)]
theorem cl68 (x:G68):Cls (c68 x):=by unfold c68;exact ClL.h
instance:ClsC c68:=⟨cl68⟩
instance {x:G68}:ClL (c68 x):=⟨cl68 x⟩
structure G69 where
 a0:Int
 a1:Int
 a2:Int
 a3:Int
 a4:Int
 a5:Int
instance:Inhabited G69:=⟨⟨default,default,default,default,default,default⟩⟩
def c69 (x:G69):List PV:=[(iP x.a0),(iP x.a1),(iP x.a2),(iP x.a3),(iP x.a4),(iP x.a5)]
theorem cl69 (x:G69):Cls (c69 x):=by unfold c69;exact ClL.h
instance:ClsC c69:=⟨cl69⟩
instance {x:G69}:ClL (c69 x):=⟨cl69 x⟩
def kv69 (x:G69):Value:=.agg #[.int .i64 x.a0,.int .i64 x.a1,.int .i64 x.a2,.int .i64 x.a3,.int .i64 x.a4,.int .i64 x.a5]
structure G71 where
 fI:Int
 fJ:Int
 fV:G69
instance:Inhabited G71:=⟨⟨default,default,default⟩⟩
def c71 (x:G71):List PV:=[(iP x.fI),(iP x.fJ),(iP x.fV.a0),(iP x.fV.a1),(iP x.fV.a2),(iP x.fV.a3),(iP x.fV.a4),(iP x.fV.a5)]
theorem cl71 (x:G71):Cls (c71 x):=by unfold c71;exact ClL.h
instance:ClsC c71:=⟨cl71⟩
instance {x:G71}:ClL (c71 x):=⟨cl71 x⟩
structure G111 where
 fAt:Int
 f8:Int
 faA:Bool
instance:Inhabited G111:=⟨⟨default,default,default⟩⟩
def c111 (x:G111):List PV:=[(iP x.fAt),(iP x.f8),(bP x.faA)]
theorem cl111 (x:G111):Cls (c111 x):=by unfold c111;exact ClL.h
instance:ClsC c111:=⟨cl111⟩
instance {x:G111}:ClL (c111 x):=⟨cl111 x⟩
structure G230 where
 fAt:Int
 faI:Int
instance:Inhabited G230:=⟨⟨default,default⟩⟩
def c230 (x:G230):List PV:=[(iP x.fAt),(iP x.faI)]
theorem cl230 (x:G230):Cls (c230 x):=by unfold c230;exact ClL.h
instance:ClsC c230:=⟨cl230⟩
instance {x:G230}:ClL (c230 x):=⟨cl230 x⟩
structure G142 where
 fA:Int
 fF:Int
instance:Inhabited G142:=⟨⟨default,default⟩⟩
def c142 (x:G142):List PV:=[(iP x.fA),(iP x.fF)]
theorem cl142 (x:G142):Cls (c142 x):=by unfold c142;exact ClL.h
instance:ClsC c142:=⟨cl142⟩
instance {x:G142}:ClL (c142 x):=⟨cl142 x⟩
structure G80 where
 fW:Int
 fal:Int
 fas:Int
instance:Inhabited G80:=⟨⟨default,default,default⟩⟩
def c80 (x:G80):List PV:=[(iP x.fW),(iP x.fal),(iP x.fas)]
theorem cl80 (x:G80):Cls (c80 x):=by unfold c80;exact ClL.h
instance:ClsC c80:=⟨cl80⟩
instance {x:G80}:ClL (c80 x):=⟨cl80 x⟩
structure G182 where
 fO:G80
 faK:Bool
 faL:Int
instance:Inhabited G182:=⟨⟨default,default,default⟩⟩
def c182 (x:G182):List PV:=[(iP x.fO.fW),(iP x.fO.fal),(iP x.fO.fas),(bP x.faK),(iP x.faL)]
theorem cl182 (x:G182):Cls (c182 x):=by unfold c182;exact ClL.h
instance:ClsC c182:=⟨cl182⟩
instance {x:G182}:ClL (c182 x):=⟨cl182 x⟩
structure G245 where
 fO:G80
 fA:Int
 faM:Bool
instance:Inhabited G245:=⟨⟨default,default,default⟩⟩
def c245 (x:G245):List PV:=[(iP x.fO.fW),(iP x.fO.fal),(iP x.fO.fas),(iP x.fA),(bP x.faM)]
theorem cl245 (x:G245):Cls (c245 x):=by unfold c245;exact ClL.h
instance:ClsC c245:=⟨cl245⟩
instance {x:G245}:ClL (c245 x):=⟨cl245 x⟩
structure G171 where
 fP:ByteArray
 faq:Int
instance:Inhabited G171:=⟨⟨default,default⟩⟩
def c171 (x:G171):List PV:=[(sP x.fP),(iP x.faq)]
theorem cl171 (x:G171):Cls (c171 x):=by unfold c171;exact ClL.h
instance:ClsC c171:=⟨cl171⟩
instance {x:G171}:ClL (c171 x):=⟨cl171 x⟩
structure G147 where
 fID:G58
 fq:Int
 fw:G142
 fD:(Sl G182)
 fS:(Sl G245)
 fZ:Int
 fab:Int
 f4:Int
 fv:(Sl G171)
 fao:Int
 fau:Int
instance:Inhabited G147:=⟨⟨default,default,default,default,default,default,default,default,default,default,default⟩⟩
def c147 (x:G147):List PV:=[(iP x.fID.fM),(iP x.fID.fU),(iP x.fq),(iP x.fw.fA),(iP x.fw.fF),(eS 5 c182 x.fD),(eS 5 c245 x.fS),(iP x.fZ),(iP x.fab),(iP x.f4),(eS 2 c171 x.fv),(iP x.fao),(iP x.fau)]
theorem cl147 (x:G147):Cls (c147 x):=by unfold c147;exact ClL.h
instance:ClsC c147:=⟨cl147⟩
instance {x:G147}:ClL (c147 x):=⟨cl147 x⟩
structure G100 where
 fg:(Sl G147)
 fY:(Sl G425)
instance:Inhabited G100:=⟨⟨default,default⟩⟩
def c100 (x:G100):List PV:=[(eS 13 c147 x.fg),(eS 4 c425 x.fY)]
theorem cl100 (x:G100):Cls (c100 x):=by unfold c100;exact ClL.h
instance:ClsC c100:=⟨cl100⟩
instance {x:G100}:ClL (c100 x):=⟨cl100 x⟩
structure G95 where
 fR:(Sl G230)
 fh:(Sl G100)
instance:Inhabited G95:=⟨⟨default,default⟩⟩
def c95 (x:G95):List PV:=[(eS 2 c230 x.fR),(eS 2 c100 x.fh)]
theorem cl95 (x:G95):Cls (c95 x):=by unfold c95;exact ClL.h
instance:ClsC c95:=⟨cl95⟩
instance {x:G95}:ClL (c95 x):=⟨cl95 x⟩
structure G75 where
 fID:G58
 f6:G71
 faF:Int
 faN:Int
 faG:Bool
 fX:Int
 fy:Int
 faw:Int
 fad:Int
 faO:Int
 faP:Int
 fax:ByteArray
 fm:(Sl G111)
 ff:(Sl G95)
instance:Inhabited G75:=⟨⟨default,default,default,default,default,default,default,default,default,default,default,default,default,default⟩⟩
def c75 (x:G75):List PV:=[(iP x.fID.fM),(iP x.fID.fU),(iP x.f6.fI),(iP x.f6.fJ),(iP x.f6.fV.a0),(iP x.f6.fV.a1),(iP x.f6.fV.a2),(iP x.f6.fV.a3),(iP x.f6.fV.a4),(iP x.f6.fV.a5),(iP x.faF),(iP x.faN),(bP x.faG),(iP x.fX),(iP x.fy),(iP x.faw),(iP x.fad),(iP x.faO),(iP x.faP),(sP x.fax),(eS 3 c111 x.fm),(eS 2 c95 x.ff)]
theorem cl75 (x:G75):Cls (c75 x):=by unfold c75;exact ClL.h
instance:ClsC c75:=⟨cl75⟩
instance {x:G75}:ClL (c75 x):=⟨cl75 x⟩
structure G213 where
 fID:G58
 fq:Int
 fj:G58
 fTo:G58
instance:Inhabited G213:=⟨⟨default,default,default,default⟩⟩
def c213 (x:G213):List PV:=[(iP x.fID.fM),(iP x.fID.fU),(iP x.fq),(iP x.fj.fM),(iP x.fj.fU),(iP x.fTo.fM),(iP x.fTo.fU)]
theorem cl213 (x:G213):Cls (c213 x):=by unfold c213;exact ClL.h
instance:ClsC c213:=⟨cl213⟩
instance {x:G213}:ClL (c213 x):=⟨cl213 x⟩
structure G27 where
 fay:ByteArray
 faH:Bool
 fi:(Sl G68)
 fc:(Sl G75)
 fp:(Sl G213)
 fG:(Sl G58)
instance:Inhabited G27:=⟨⟨default,default,default,default,default,default⟩⟩
def c27 (x:G27):List PV:=[(sP x.fay),(bP x.faH),(eS 6 c68 x.fi),(eS 22 c75 x.fc),(eS 7 c213 x.fp),(eS 2 c58 x.fG)]
theorem cl27 (x:G27):Cls (c27 x):=by unfold c27;exact ClL.h
instance:ClsC c27:=⟨cl27⟩
instance {x:G27}:ClL (c27 x):=⟨cl27 x⟩
structure G159 where
 fam:Int
 faR:G58
instance:Inhabited G159:=⟨⟨default,default⟩⟩
def c159 (x:G159):List PV:=[(iP x.fam),(iP x.faR.fM),(iP x.faR.fU)]
theorem cl159 (x:G159):Cls (c159 x):=by unfold c159;exact ClL.h
instance:ClsC c159:=⟨cl159⟩
instance {x:G159}:ClL (c159 x):=⟨cl159 x⟩
structure G236 where
 fq:Int
 faB:Int
 fC:Int
 fo:Int
 fB:Int
 f9:Int
 faC:Int
instance:Inhabited G236:=⟨⟨default,default,default,default,default,default,default⟩⟩
def c236 (x:G236):List PV:=[(iP x.fq),(iP x.faB),(iP x.fC),(iP x.fo),(iP x.fB),(iP x.f9),(iP x.faC)]
theorem cl236 (x:G236):Cls (c236 x):=by unfold c236;exact ClL.h
instance:ClsC c236:=⟨cl236⟩
instance {x:G236}:ClL (c236 x):=⟨cl236 x⟩
def Yk (x:G236):Value:=.agg #[.int .i64 x.fq,.int .i64 x.faB,.int .i64 x.fC,.int .i64 x.fo,.int .i64 x.fB,.int .i64 x.f9,.int .i64 x.faC]
def keq236 (a b:G236):Bool:=(a.fq==b.fq&&(a.faB==b.faB&&(a.fC==b.fC&&(a.fo==b.fo&&(a.fB==b.fB&&(a.f9==b.f9&&(a.faC==b.faC&&true)))))))
structure G326 where
 fK:ByteArray
 fae:Int
 faf:Int
 fag:Int
 fah:Int
 fai:Int
 faj:Int
instance:Inhabited G326:=⟨⟨default,default,default,default,default,default,default⟩⟩
def c326 (x:G326):List PV:=[(sP x.fK),(.sc (.int .u8 x.fae)),(iP x.faf),(iP x.fag),(iP x.fah),(iP x.fai),(iP x.faj)]
theorem cl326 (x:G326):Cls (c326 x):=by unfold c326;exact ClL.h
instance:ClsC c326:=⟨cl326⟩
instance {x:G326}:ClL (c326 x):=⟨cl326 x⟩
structure G385 where
 a0:G326
 a1:G326
 a2:G326
 a3:G326
 a4:G326
 a5:G326
 a6:G326
 a7:G326
 a8:G326
instance:Inhabited G385:=⟨⟨default,default,default,default,default,default,default,default,default⟩⟩
def c385 (x:G385):List PV:=[(sP x.a0.fK),(.sc (.int .u8 x.a0.fae)),(iP x.a0.faf),(iP x.a0.fag),(iP x.a0.fah),(iP x.a0.fai),(iP x.a0.faj),(sP x.a1.fK),(.sc (.int .u8 x.a1.fae)),(iP x.a1.faf),(iP x.a1.fag),(iP x.a1.fah),(iP x.a1.fai),(iP x.a1.faj),(sP x.a2.fK),(.sc (.int .u8 x.a2.fae)),(iP x.a2.faf),(iP x.a2.fag),(iP x.a2.fah),(iP x.a2.fai),(iP x.a2.faj),(sP x.a3.fK),(.sc (.int .u8 x.a3.fae)),(iP x.a3.faf),(iP x.a3.fag),(iP x.a3.fah),(iP x.a3.fai),(iP x.a3.faj),(sP x.a4.fK),(.sc (.int .u8 x.a4.fae)),(iP x.a4.faf),(iP x.a4.fag),(iP x.a4.fah),(iP x.a4.fai),(iP x.a4.faj),(sP x.a5.fK),(.sc (.int .u8 x.a5.fae)),(iP x.a5.faf),(iP x.a5.fag),(iP x.a5.fah),(iP x.a5.fai),(iP x.a5.faj),(sP x.a6.fK),(.sc (.int .u8 x.a6.fae)),(iP x.a6.faf),(iP x.a6.fag),(iP x.a6.fah),(iP x.a6.fai),(iP x.a6.faj),(sP x.a7.fK),(.sc (.int .u8 x.a7.fae)),(iP x.a7.faf),(iP x.a7.fag),(iP x.a7.fah),(iP x.a7.fai),(iP x.a7.faj),(sP x.a8.fK),(.sc (.int .u8 x.a8.fae)),(iP x.a8.faf),(iP x.a8.fag),(iP x.a8.fah),(iP x.a8.fai),(iP x.a8.faj)]
theorem cl385 (x:G385):Cls (c385 x):=by unfold c385;exact ClL.h
instance:ClsC c385:=⟨cl385⟩
instance {x:G385}:ClL (c385 x):=⟨cl385 x⟩
structure G273 where
 a0:Int
 a1:Int
 a2:Int
 a3:Int
 a4:Int
 a5:Int
 a6:Int
instance:Inhabited G273:=⟨⟨default,default,default,default,default,default,default⟩⟩
def c273 (x:G273):List PV:=[(iP x.a0),(iP x.a1),(iP x.a2),(iP x.a3),(iP x.a4),(iP x.a5),(iP x.a6)]
theorem cl273 (x:G273):Cls (c273 x):=by unfold c273;exact ClL.h
instance:ClsC c273:=⟨cl273⟩
instance {x:G273}:ClL (c273 x):=⟨cl273 x⟩
structure G261 where
 fo:Int
 fAt:Int
 fC:Int
 fB:Int
instance:Inhabited G261:=⟨⟨default,default,default,default⟩⟩
def c261 (x:G261):List PV:=[(iP x.fo),(iP x.fAt),(iP x.fC),(iP x.fB)]
theorem cl261 (x:G261):Cls (c261 x):=by unfold c261;exact ClL.h
instance:ClsC c261:=⟨cl261⟩
instance {x:G261}:ClL (c261 x):=⟨cl261 x⟩
structure G263 where
 fq:Int
 fj:G261
 fTo:G261
instance:Inhabited G263:=⟨⟨default,default,default⟩⟩
def c263 (x:G263):List PV:=[(iP x.fq),(iP x.fj.fo),(iP x.fj.fAt),(iP x.fj.fC),(iP x.fj.fB),(iP x.fTo.fo),(iP x.fTo.fAt),(iP x.fTo.fC),(iP x.fTo.fB)]
theorem cl263 (x:G263):Cls (c263 x):=by unfold c263;exact ClL.h
instance:ClsC c263:=⟨cl263⟩
instance {x:G263}:ClL (c263 x):=⟨cl263 x⟩
structure G265 where
 fT:Bool
 fQ:Int
 fH:Int
 faa:Int
 fan:Bool
 fu:Int
instance:Inhabited G265:=⟨⟨default,default,default,default,default,default⟩⟩
def c265 (x:G265):List PV:=[(bP x.fT),(iP x.fQ),(iP x.fH),(iP x.faa),(bP x.fan),(iP x.fu)]
theorem cl265 (x:G265):Cls (c265 x):=by unfold c265;exact ClL.h
instance:ClsC c265:=⟨cl265⟩
instance {x:G265}:ClL (c265 x):=⟨cl265 x⟩
structure G156 where
 fs:G27
 faS:Int
 faT:(Sl G159)
instance:Inhabited G156:=⟨⟨default,default,default⟩⟩
def c156 (x:G156):List PV:=[(sP x.fs.fay),(bP x.fs.faH),(eS 6 c68 x.fs.fi),(eS 22 c75 x.fs.fc),(eS 7 c213 x.fs.fp),(eS 2 c58 x.fs.fG),(iP x.faS),(eS 3 c159 x.faT)]
theorem cl156 (x:G156):Cls (c156 x):=by unfold c156;exact ClL.h
instance:ClsC c156:=⟨cl156⟩
instance {x:G156}:ClL (c156 x):=⟨cl156 x⟩
structure G114 where
 fo:Int
 faU:Int
instance:Inhabited G114:=⟨⟨default,default⟩⟩
def c114 (x:G114):List PV:=[(iP x.fo),(iP x.faU)]
theorem cl114 (x:G114):Cls (c114 x):=by unfold c114;exact ClL.h
instance:ClsC c114:=⟨cl114⟩
instance {x:G114}:ClL (c114 x):=⟨cl114 x⟩
structure G173 where
 fL:Int
 f7:Int
 faD:Bool
instance:Inhabited G173:=⟨⟨default,default,default⟩⟩
def c173 (x:G173):List PV:=[(iP x.fL),(iP x.f7),(bP x.faD)]
theorem cl173 (x:G173):Cls (c173 x):=by unfold c173;exact ClL.h
instance:ClsC c173:=⟨cl173⟩
instance {x:G173}:ClL (c173 x):=⟨cl173 x⟩
structure G108 where
 fat:Int
 f7:Int
 faD:Bool
instance:Inhabited G108:=⟨⟨default,default,default⟩⟩
def c108 (x:G108):List PV:=[(iP x.fat),(iP x.f7),(bP x.faD)]
theorem cl108 (x:G108):Cls (c108 x):=by unfold c108;exact ClL.h
instance:ClsC c108:=⟨cl108⟩
instance {x:G108}:ClL (c108 x):=⟨cl108 x⟩
abbrev hC (s:G27) (r:Int) (l:List G159):List Blk:=[.cells (c27 s++[iP r,oP 1 3 c159 l]),.grow (List.length l) 3]
end
end Go.Proofs.YtibndgdocbbbeaaGreat
