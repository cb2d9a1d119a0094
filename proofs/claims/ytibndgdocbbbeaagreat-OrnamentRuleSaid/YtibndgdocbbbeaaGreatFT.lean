/- A part of the proof. -/
import Derived.Test.YtibndgdocbbbeaaGreatSY8
set_option linter.all false
set_option maxRecDepth 100000
set_option maxHeartbeats 40000000
set_option synthInstance.maxSize 100000
namespace Go.Proofs.YtibndgdocbbbeaaGreat
open Go.PE
noncomputable section
structure G58 where
 fO:Int
 fT:Int
instance:Inhabited G58:=⟨⟨default,default⟩⟩
def c58 (x:G58):List PV:=[(iP x.fO),(iP x.fT)]
theorem cl58 (x:G58):Cls (c58 x):=by unfold c58;exact ClL.h
instance:ClsC c58:=⟨cl58⟩
instance {x:G58}:ClL (c58 x):=⟨cl58 x⟩
def kv58 (x:G58):Value:=.agg #[.int .i64 x.fO,.int .i64 x.fT]
def keq58 (a b:G58):Bool:=(a.fO==b.fO&&(a.fT==b.fT&&true))
structure G142 where
 fF:Int
 fL:Int
instance:Inhabited G142:=⟨⟨default,default⟩⟩
def c142 (x:G142):List PV:=[(iP x.fF),(iP x.fL)]
theorem cl142 (x:G142):Cls (c142 x):=by unfold c142;exact ClL.h
instance:ClsC c142:=⟨cl142⟩
instance {x:G142}:ClL (c142 x):=⟨cl142 x⟩
structure G80 where
 f6:Int
 faq:Int
 fau:Int
instance:Inhabited G80:=⟨⟨default,default,default⟩⟩
def c80 (x:G80):List PV:=[(iP x.f6),(iP x.faq),(iP x.fau)]
theorem cl80 (x:G80):Cls (c80 x):=by unfold c80;exact ClL.h
instance:ClsC c80:=⟨cl80⟩
instance {x:G80}:ClL (c80 x):=⟨cl80 x⟩
structure G182 where
 f5:G80
 faF:Bool
 faH:Int
instance:Inhabited G182:=⟨⟨default,default,default⟩⟩
def c182 (x:G182):List PV:=[(iP x.f5.f6),(iP x.f5.faq),(iP x.f5.fau),(bP x.faF),(iP x.faH)]
theorem cl182 (x:G182):Cls (c182 x):=by unfold c182;exact ClL.h
instance:ClsC c182:=⟨cl182⟩
instance {x:G182}:ClL (c182 x):=⟨cl182 x⟩
structure G245 where
 f5:G80
 fF:Int
 faI:Bool
instance:Inhabited G245:=⟨⟨default,default,default⟩⟩
def c245 (x:G245):List PV:=[(iP x.f5.f6),(iP x.f5.faq),(iP x.f5.fau),(iP x.fF),(bP x.faI)]
theorem cl245 (x:G245):Cls (c245 x):=by unfold c245;exact ClL.h
instance:ClsC c245:=⟨cl245⟩
instance {x:G245}:ClL (c245 x):=⟨cl245 x⟩
structure G171 where
 fD:ByteArray
 fah:Int
instance:Inhabited G171:=⟨⟨default,default⟩⟩
def c171 (x:G171):List PV:=[(sP x.fD),(iP x.fah)]
theorem cl171 (x:G171):Cls (c171 x):=by unfold c171;exact ClL.h
instance:ClsC c171:=⟨cl171⟩
instance {x:G171}:ClL (c171 x):=⟨cl171 x⟩
structure G147 where
 fID:G58
 fm:Int
 fy:G142
 fp:(Sl G182)
 fA:(Sl G245)
 f8:Int
 fae:Int
 fab:Int
 fq:(Sl G171)
 faj:Int
 fas:Int
instance:Inhabited G147:=⟨⟨default,default,default,default,default,default,default,default,default,default,default⟩⟩
def c147 (x:G147):List PV:=[(iP x.fID.fO),(iP x.fID.fT),(iP x.fm),(iP x.fy.fF),(iP x.fy.fL),(eS 5 c182 x.fp),(eS 5 c245 x.fA),(iP x.f8),(iP x.fae),(iP x.fab),(eS 2 c171 x.fq),(iP x.faj),(iP x.fas)]
theorem cl147 (x:G147):Cls (c147 x):=by unfold c147;exact ClL.h
instance:ClsC c147:=⟨cl147⟩
instance {x:G147}:ClL (c147 x):=⟨cl147 x⟩
structure G425 where
 fax:Int
 f7:Int
 faw:Int
 fay:Int
instance:Inhabited G425:=⟨⟨default,default,default,default⟩⟩
def c425 (x:G425):List PV:=[(iP x.fax),(iP x.f7),(iP x.faw),(iP x.fay)]
theorem cl425 (x:G425):Cls (c425 x):=by unfold c425;exact ClL.h
instance:ClsC c425:=⟨cl425⟩
instance {x:G425}:ClL (c425 x):=⟨cl425 x⟩
structure G65 where
 fai:Int
 fac:Int
instance:Inhabited G65:=⟨⟨default,default⟩⟩
def c65 (x:G65):List PV:=[(iP x.fai),(iP x.fac)]
theorem cl65 (x:G65):Cls (c65 x):=by unfold c65;exact ClL.h
instance:ClsC c65:=⟨cl65⟩
instance {x:G65}:ClL (c65 x):=⟨cl65 x⟩
structure G184 where
 fID:G58
 faG:Int
instance:Inhabited G184:=⟨⟨default,default⟩⟩
def c184 (x:G184):List PV:=[(iP x.fID.fO),(iP x.fID.fT),(iP x.faG)]
theorem cl184 (x:G184):Cls (c184 x):=by unfold c184;exact ClL.h
instance:ClsC c184:=⟨cl184⟩
instance {x:G184}:ClL (c184 x):=⟨cl184 x⟩
structure G68 where
 fID:G58
 fav:ByteArray
 faA:G65
 ft:(Sl G184)
instance:Inhabited G68:=⟨⟨default,default,default,default⟩⟩
def c68 (x:G68):List PV:=[(iP x.fID.fO),(iP x.fID.fT),(sP x.fav),(iP x.faA.fai),(iP x.faA.fac),(eS 3 c184 x.ft)]
theorem cl68 (x:G68):Cls (c68 x):=by unfold c68;exact ClL.h
instance:ClsC c68:=⟨cl68⟩
instance {x:G68}:ClL (c68 x):=⟨cl68 x⟩
structure G69 where
 a0:Int
 a1:Int
 a2:Int
 a3:Int
 a4:Int
 a5:Int
instance:Inhabited G69:=⟨⟨default,default,default,default,default,default⟩⟩
def c69 (x:G69):List PV:=[(iP x.a0),(iP x.a1),(iP x.a2),(iP x.a3),(iP x.a4),(iP x.a5)]
theorem cl69 (x:G69):Cls (c69 x):=by unfold c69;exact ClL.h
instance:ClsC c69:=⟨cl69⟩
instance {x:G69}:ClL (c69 x):=⟨cl69 x⟩
def kv69 (x:G69):Value:=.agg #[.int .i64 x.a0,.int .i64 x.a1,.int .i64 x.a2,.int .i64 x.a3,.int .i64 x.a4,.int .i64 x.a5]
structure G71 where
 f7:Int
 faf:Int
 fx:G69
instance:Inhabited G71:=⟨⟨default,default,default⟩⟩
def c71 (x:G71):List PV:=[(iP x.f7),(iP x.faf),(iP x.fx.a0),(iP x.fx.a1),(iP x.fx.a2),(iP x.fx.a3),(iP x.fx.a4),(iP x.fx.a5)]
theorem cl71 (x:G71):Cls (c71 x):=by unfold c71;exact ClL.h
instance:ClsC c71:=⟨cl71⟩
instance {x:G71}:ClL (c71 x):=⟨cl71 x⟩
structure G111 where
 fAt:Int
 faL:Int
 faN:Bool
instance:Inhabited G111:=⟨⟨default,default,default⟩⟩
def c111 (x:G111):List PV:=[(iP x.fAt),(iP x.faL),(bP x.faN)]
theorem cl111 (x:G111):Cls (c111 x):=by unfold c111;exact ClL.h
instance:ClsC c111:=⟨cl111⟩
instance {x:G111}:ClL (c111 x):=⟨cl111 x⟩
structure G230 where
 fAt:Int
 faG:Int
instance:Inhabited G230:=⟨⟨default,default⟩⟩
def c230 (x:G230):List PV:=[(iP x.fAt),(iP x.faG)]
theorem cl230 (x:G230):Cls (c230 x):=by unfold c230;exact ClL.h
instance:ClsC c230:=⟨cl230⟩
instance {x:G230}:ClL (c230 x):=⟨cl230 x⟩
structure G100 where
 fg:(Sl G147)
 fX:(Sl G425)
instance:Inhabited G100:=⟨⟨default,default⟩⟩
def c100 (x:G100):List PV:=[(eS 13 c147 x.fg),(eS 4 c425 x.fX)]
theorem cl100 (x:G100):Cls (c100 x):=by unfold c100;exact ClL.h
instance:ClsC c100:=⟨cl100⟩
instance {x:G100}:ClL (c100 x):=⟨cl100 x⟩
structure G95 where
 fU:(Sl G230)
 ff:(Sl G100)
instance:Inhabited G95:=⟨⟨default,default⟩⟩
def c95 (x:G95):List PV:=[(eS 2 c230 x.fU),(eS 2 c100 x.ff)]
theorem cl95 (x:G95):Cls (c95 x):=by unfold c95;exact ClL.h
instance:ClsC c95:=⟨cl95⟩
instance {x:G95}:ClL (c95 x):=⟨cl95 x⟩
structure G75 where
 fID:G58
 fo:G71
 fP:Int
 fQ:Int
 fM:Bool
 fu:Int
 fj:Int
 fE:Int
 fB:Int
 fN:Int
 fR:Int
 fG:ByteArray
 fv:(Sl G111)
 fe:(Sl G95)
instance:Inhabited G75:=⟨⟨default,default,default,default,default,default,default,default,default,default,default,default,default,default⟩⟩
def c75 (x:G75):List PV:=[(iP x.fID.fO),(iP x.fID.fT),(iP x.fo.f7),(iP x.fo.faf),(iP x.fo.fx.a0),(iP x.fo.fx.a1),(iP x.fo.fx.a2),(iP x.fo.fx.a3),(iP x.fo.fx.a4),(iP x.fo.fx.a5),(iP x.fP),(iP x.fQ),(bP x.fM),(iP x.fu),(iP x.fj),(iP x.fE),(iP x.fB),(iP x.fN),(iP x.fR),(sP x.fG),(eS 3 c111 x.fv),(eS 2 c95 x.fe)]
theorem cl75 (x:G75):Cls (c75 x):=by unfold c75;exact ClL.h
instance:ClsC c75:=⟨cl75⟩
instance {x:G75}:ClL (c75 x):=⟨cl75 x⟩
structure G213 where
 fID:G58
 fm:Int
 fW:G58
 fTo:G58
instance:Inhabited G213:=⟨⟨default,default,default,default⟩⟩
def c213 (x:G213):List PV:=[(iP x.fID.fO),(iP x.fID.fT),(iP x.fm),(iP x.fW.fO),(iP x.fW.fT),(iP x.fTo.fO),(iP x.fTo.fT)]
theorem cl213 (x:G213):Cls (c213 x):=by unfold c213;exact ClL.h
instance:ClsC c213:=⟨cl213⟩
instance {x:G213}:ClL (c213 x):=⟨cl213 x⟩
structure G27 where
 faz:ByteArray
 fC:Bool
 fh:(Sl G68)
 fc:(Sl G75)
 fi:(Sl G213)
 fJ:(Sl G58)
instance:Inhabited G27:=⟨⟨default,default,default,default,default,default⟩⟩
def c27 (x:G27):List PV:=[(sP x.faz),(bP x.fC),(eS 6 c68 x.fh),(eS 22 c75 x.fc),(eS 7 c213 x.fi),(eS 2 c58 x.fJ)]
theorem cl27 (x:G27):Cls (c27 x):=by unfold c27;exact ClL.h
instance:ClsC c27:=⟨cl27⟩
instance {x:G27}:ClL (c27 x):=⟨cl27 x⟩
structure G159 where
 fad:Int
 faM:G58
instance:Inhabited G159:=⟨⟨default,default⟩⟩
def c159 (x:G159):List PV:=[(iP x.fad),(iP x.faM.fO),(iP x.faM.fT)]
theorem cl159 (x:G159):Cls (c159 x):=by unfold c159;exact ClL.h
instance:ClsC c159:=⟨cl159⟩
instance {x:G159}:ClL (c159 x):=⟨cl159 x⟩
structure G236 where
 fm:Int
 faB:Int
 fK:Int
 fI:Int
 fH:Int
 faa:Int
 faC:Int
instance:Inhabited G236:=⟨⟨default,default,default,default,default,default,default⟩⟩
def c236 (x:G236):List PV:=[(iP x.fm),(iP x.faB),(iP x.fK),(iP x.fI),(iP x.fH),(iP x.faa),(iP x.faC)]
theorem cl236 (x:G236):Cls (c236 x):=by unfold c236;exact ClL.h
instance:ClsC c236:=⟨cl236⟩
instance {x:G236}:ClL (c236 x):=⟨cl236 x⟩
def Xr (x:G236):Value:=.agg #[.int .i64 x.fm,.int .i64 x.faB,.int .i64 x.fK,.int .i64 x.fI,.int .i64 x.fH,.int .i64 x.faa,.int .i64 x.faC]
def keq236 (a b:G236):Bool:=(a.fm==b.fm&&(a.faB==b.faB&&(a.fK==b.fK&&(a.fI==b.fI&&(a.fH==b.fH&&(a.faa==b.faa&&(a.faC==b.faC&&true)))))))
structure G326 where
 fZ:ByteArray
 fak:Int
 fal:Int
 fam:Int
 fan:Int
 fao:Int
 fap:Int
instance:Inhabited G326:=⟨⟨default,default,default,default,default,default,default⟩⟩
def c326 (x:G326):List PV:=[(sP x.fZ),(.sc (.int .u8 x.fak)),(iP x.fal),(iP x.fam),(iP x.fan),(iP x.fao),(iP x.fap)]
theorem cl326 (x:G326):Cls (c326 x):=by unfold c326;exact ClL.h
instance:ClsC c326:=⟨cl326⟩
instance {x:G326}:ClL (c326 x):=⟨cl326 x⟩
structure G385 where
 a0:G326
 a1:G326
 a2:G326
 a3:G326
 a4:G326
 a5:G326
 a6:G326
 a7:G326
 a8:G326
instance:Inhabited G385:=⟨⟨default,default,default,default,default,default,default,default,default⟩⟩
def c385 (x:G385):List PV:=[(sP x.a0.fZ),(.sc (.int .u8 x.a0.fak)),(iP x.a0.fal),(iP x.a0.fam),(iP x.a0.fan),(iP x.a0.fao),(iP x.a0.fap),(sP x.a1.fZ),(.sc (.int .u8 x.a1.fak)),(iP x.a1.fal),(iP x.a1.fam),(iP x.a1.fan),(iP x.a1.fao),(iP x.a1.fap),(sP x.a2.fZ),(.sc (.int .u8 x.a2.fak)),(iP x.a2.fal),(iP x.a2.fam),(iP x.a2.fan),(iP x.a2.fao),(iP x.a2.fap),(sP x.a3.fZ),(.sc (.int .u8 x.a3.fak)),(iP x.a3.fal),(iP x.a3.fam),(iP x.a3.fan),(iP x.a3.fao),(iP x.a3.fap),(sP x.a4.fZ),(.sc (.int .u8 x.a4.fak)),(iP x.a4.fal),(iP x.a4.fam),(iP x.a4.fan),(iP x.a4.fao),(iP x.a4.fap),(sP x.a5.fZ),(.sc (.int .u8 x.a5.fak)),(iP x.a5.fal),(iP x.a5.fam),(iP x.a5.fan),(iP x.a5.fao),(iP x.a5.fap),(sP x.a6.fZ),(.sc (.int .u8 x.a6.fak)),(iP x.a6.fal),(iP x.a6.fam),(iP x.a6.fan),(iP x.a6.fao),(iP x.a6.fap),(sP x.a7.fZ),(.sc (.int .u8 x.a7.fak)),(iP x.a7.fal),(iP x.a7.fam),(iP x.a7.fan),(iP x.a7.fao),(iP x.a7.fap),(sP x.a8.fZ),(.sc (.int .u8 x.a8.fak)),(iP x.a8.fal),(iP x.a8.fam),(iP x.a8.fan),(iP x.a8.fao),(iP x.a8.fap)]
theorem cl385 (x:G385):Cls (c385 x):=by unfold c385;exact ClL.h
instance:ClsC c385:=⟨cl385⟩
instance {x:G385}:ClL (c385 x):=⟨cl385 x⟩
structure G273 where
 a0:Int
 a1:Int
 a2:Int
 a3:Int
 a4:Int
 a5:Int
 a6:Int
instance:Inhabited G273:=⟨⟨default,default,default,default,default,default,default⟩⟩
def c273 (x:G273):List PV:=[(iP x.a0),(iP x.a1),(iP x.a2),(iP x.a3),(iP x.a4),(iP x.a5),(iP x.a6)]
theorem cl273 (x:G273):Cls (c273 x):=by unfold c273;exact ClL.h
instance:ClsC c273:=⟨cl273⟩
instance {x:G273}:ClL (c273 x):=⟨cl273 x⟩
structure G261 where
 fI:Int
 fAt:Int
 fK:Int
 fH:Int
instance:Inhabited G261:=⟨⟨default,default,default,default⟩⟩
def c261 (x:G261):List PV:=[(iP x.fI),(iP x.fAt),(iP x.fK),(iP x.fH)]
theorem cl261 (x:G261):Cls (c261 x):=by unfold c261;exact ClL.h
instance:ClsC c261:=⟨cl261⟩
instance {x:G261}:ClL (c261 x):=⟨cl261 x⟩
structure G263 where
 fm:Int
 fW:G261
 fTo:G261
instance:Inhabited G263:=⟨⟨default,default,default⟩⟩
def c263 (x:G263):List PV:=[(iP x.fm),(iP x.fW.fI),(iP x.fW.fAt),(iP x.fW.fK),(iP x.fW.fH),(iP x.fTo.fI),(iP x.fTo.fAt),(iP x.fTo.fK),(iP x.fTo.fH)]
theorem cl263 (x:G263):Cls (c263 x):=by unfold c263;exact ClL.h
instance:ClsC c263:=⟨cl263⟩
instance {x:G263}:ClL (c263 x):=⟨cl263 x⟩
structure G265 where
 fY:Bool
 fV:Int
 fS:Int
 fag:Int
 far:Bool
 fw:Int
instance:Inhabited G265:=⟨⟨default,default,default,default,default,default⟩⟩
def c265 (x:G265):List PV:=[(bP x.fY),(iP x.fV),(iP x.fS),(iP x.fag),(bP x.far),(iP x.fw)]
theorem cl265 (x:G265):Cls (c265 x):=by unfold c265;exact ClL.h
instance:ClsC c265:=⟨cl265⟩
instance {x:G265}:ClL (c265 x):=⟨cl265 x⟩
structure G156 where
 fs:G27
 faO:Int
 faP:(Sl G159)
instance:Inhabited G156:=⟨⟨default,default,default⟩⟩
def c156 (x:G156):List PV:=[(sP x.fs.faz),(bP x.fs.fC),(eS 6 c68 x.fs.fh),(eS 22 c75 x.fs.fc),(eS 7 c213 x.fs.fi),(eS 2 c58 x.fs.fJ),(iP x.faO),(eS 3 c159 x.faP)]
theorem cl156 (x:G156):Cls (c156 x):=by unfold c156;exact ClL.h
instance:ClsC c156:=⟨cl156⟩
instance {x:G156}:ClL (c156 x):=⟨cl156 x⟩
structure G86 where
 fOn:Int
 faD:Int
 faE:Int
instance:Inhabited G86:=⟨⟨default,default,default⟩⟩
def c86 (x:G86):List PV:=[(iP x.fOn),(iP x.faD),(iP x.faE)]
theorem cl86 (x:G86):Cls (c86 x):=by unfold c86;exact ClL.h
instance:ClsC c86:=⟨cl86⟩
instance {x:G86}:ClL (c86 x):=⟨cl86 x⟩
structure G173 where
 faQ:Int
 faJ:Int
 faK:Bool
instance:Inhabited G173:=⟨⟨default,default,default⟩⟩
def c173 (x:G173):List PV:=[(iP x.faQ),(iP x.faJ),(bP x.faK)]
theorem cl173 (x:G173):Cls (c173 x):=by unfold c173;exact ClL.h
instance:ClsC c173:=⟨cl173⟩
instance {x:G173}:ClL (c173 x):=⟨cl173 x⟩
structure G108 where
 fat:Int
 faJ:Int
 faK:Bool
instance:Inhabited G108:=⟨⟨default,default,default⟩⟩
def c108 (x:G108):List PV:=[(iP x.fat),(iP x.faJ),(bP x.faK)]
theorem cl108 (x:G108):Cls (c108 x):=by unfold c108;exact ClL.h
instance:ClsC c108:=⟨cl108⟩
instance {x:G108}:ClL (c108 x):=⟨cl108 x⟩
abbrev hC (s:G27) (r:Int) (l:List G159):List Blk:=[.cells (c27 s++[iP r,oP 1 3 c159 l]),.grow (List.length l) 3]
end
end Go.Proofs.YtibndgdocbbbeaaGreat
