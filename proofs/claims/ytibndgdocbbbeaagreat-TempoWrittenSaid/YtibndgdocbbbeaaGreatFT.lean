/- A part of the proof. -/
import Derived.Test.YtibndgdocbbbeaaGreatSY8
set_option linter.all false
set_option maxRecDepth 100000
set_option maxHeartbeats 40000000
set_option synthInstance.maxSize 100000
namespace Go.Proofs.YtibndgdocbbbeaaGreat
open Go.PE
noncomputable section
structure G58 where
 fM:Int
 fV:Int
instance:Inhabited G58:=⟨⟨default,default⟩⟩
def c58 (x:G58):List PV:=[(iP x.fM),(iP x.fV)]
theorem cl58 (x:G58):Cls (c58 x):=by unfold c58;exact ClL.h
instance:ClsC c58:=⟨cl58⟩
instance {x:G58}:ClL (c58 x):=⟨cl58 x⟩
def kv58 (x:G58):Value:=.agg #[.int .i64 x.fM,.int .i64 x.fV]
def keq58 (a b:G58):Bool:=(a.fM==b.fM&&(a.fV==b.fV&&true))
structure G142 where
 fx:Int
 fB:Int
instance:Inhabited G142:=⟨⟨default,default⟩⟩
def c142 (x:G142):List PV:=[(iP x.fx),(iP x.fB)]
theorem cl142 (x:G142):Cls (c142 x):=by unfold c142;exact ClL.h
instance:ClsC c142:=⟨cl142⟩
instance {x:G142}:ClL (c142 x):=⟨cl142 x⟩
structure G80 where
 fW:Int
 fad:Int
 fai:Int
instance:Inhabited G80:=⟨⟨default,default,default⟩⟩
def c80 (x:G80):List PV:=[(iP x.fW),(iP x.fad),(iP x.fai)]
theorem cl80 (x:G80):Cls (c80 x):=by unfold c80;exact ClL.h
instance:ClsC c80:=⟨cl80⟩
instance {x:G80}:ClL (c80 x):=⟨cl80 x⟩
structure G182 where
 fP:G80
 faB:Bool
 faD:Int
instance:Inhabited G182:=⟨⟨default,default,default⟩⟩
def c182 (x:G182):List PV:=[(iP x.fP.fW),(iP x.fP.fad),(iP x.fP.fai),(bP x.faB),(iP x.faD)]
theorem cl182 (x:G182):Cls (c182 x):=by unfold c182;exact ClL.h
instance:ClsC c182:=⟨cl182⟩
instance {x:G182}:ClL (c182 x):=⟨cl182 x⟩
structure G245 where
 fP:G80
 fx:Int
 faE:Bool
instance:Inhabited G245:=⟨⟨default,default,default⟩⟩
def c245 (x:G245):List PV:=[(iP x.fP.fW),(iP x.fP.fad),(iP x.fP.fai),(iP x.fx),(bP x.faE)]
theorem cl245 (x:G245):Cls (c245 x):=by unfold c245;exact ClL.h
instance:ClsC c245:=⟨cl245⟩
instance {x:G245}:ClL (c245 x):=⟨cl245 x⟩
structure G171 where
 fH:ByteArray
 fag:Int
instance:Inhabited G171:=⟨⟨default,default⟩⟩
def c171 (x:G171):List PV:=[(sP x.fH),(iP x.fag)]
theorem cl171 (x:G171):Cls (c171 x):=by unfold c171;exact ClL.h
instance:ClsC c171:=⟨cl171⟩
instance {x:G171}:ClL (c171 x):=⟨cl171 x⟩
structure G147 where
 fID:G58
 fj:Int
 fu:G142
 fv:(Sl G182)
 fS:(Sl G245)
 fY:Int
 f5:Int
 fZ:Int
 fq:(Sl G171)
 fah:Int
 fak:Int
instance:Inhabited G147:=⟨⟨default,default,default,default,default,default,default,default,default,default,default⟩⟩
def c147 (x:G147):List PV:=[(iP x.fID.fM),(iP x.fID.fV),(iP x.fj),(iP x.fu.fx),(iP x.fu.fB),(eS 5 c182 x.fv),(eS 5 c245 x.fS),(iP x.fY),(iP x.f5),(iP x.fZ),(eS 2 c171 x.fq),(iP x.fah),(iP x.fak)]
theorem cl147 (x:G147):Cls (c147 x):=by unfold c147;exact ClL.h
instance:ClsC c147:=⟨cl147⟩
instance {x:G147}:ClL (c147 x):=⟨cl147 x⟩
structure G425 where
 fal:Int
 fE:Int
 faj:Int
 fam:Int
instance:Inhabited G425:=⟨⟨default,default,default,default⟩⟩
def c425 (x:G425):List PV:=[(iP x.fal),(iP x.fE),(iP x.faj),(iP x.fam)]
theorem cl425 (x:G425):Cls (c425 x):=by unfold c425;exact ClL.h
instance:ClsC c425:=⟨cl425⟩
instance {x:G425}:ClL (c425 x):=⟨cl425 x⟩
structure G65 where
 fae:Int
 f1:Int
instance:Inhabited G65:=⟨⟨default,default⟩⟩
def c65 (x:G65):List PV:=[(iP x.fae),(iP x.f1)]
theorem cl65 (x:G65):Cls (c65 x):=by unfold c65;exact ClL.h
instance:ClsC c65:=⟨cl65⟩
instance {x:G65}:ClL (c65 x):=⟨cl65 x⟩
structure G184 where
 fID:G58
 faC:Int
instance:Inhabited G184:=⟨⟨default,default⟩⟩
def c184 (x:G184):List PV:=[(iP x.fID.fM),(iP x.fID.fV),(iP x.faC)]
theorem cl184 (x:G184):Cls (c184 x):=by unfold c184;exact ClL.h
instance:ClsC c184:=⟨cl184⟩
instance {x:G184}:ClL (c184 x):=⟨cl184 x⟩
structure G68 where
 fID:G58
 fau:ByteArray
 fay:G65
 ft:(Sl G184)
instance:Inhabited G68:=⟨⟨default,default,default,default⟩⟩
def c68 (x:G68):List PV:=[(iP x.fID.fM),(iP x.fID.fV),(sP x.fau),(iP x.fay.fae),(iP x.fay.f1),(eS 3 c184 x.ft)]
theorem cl68 (x:G68):Cls (c68 x):=by unfold c68;exact ClL.h
instance:ClsC c68:=⟨cl68⟩
instance {x:G68}:ClL (c68 x):=⟨cl68 x⟩
structure G69 where
 a0:Int
 a1:Int
 a2:Int
 a3:Int
 a4:Int
 a5:Int
instance:Inhabited G69:=⟨⟨default,default,default,default,default,default⟩⟩
def c69 (x:G69):List PV:=[(iP x.a0),(iP x.a1),(iP x.a2),(iP x.a3),(iP x.a4),(iP x.a5)]
theorem cl69 (x:G69):Cls (c69 x):=by unfold c69;exact ClL.h
instance:ClsC c69:=⟨cl69⟩
instance {x:G69}:ClL (c69 x):=⟨cl69 x⟩
def kv69 (x:G69):Value:=.agg #[.int .i64 x.a0,.int .i64 x.a1,.int .i64 x.a2,.int .i64 x.a3,.int .i64 x.a4,.int .i64 x.a5]
structure G71 where
 fE:Int
 fD:Int
 fN:G69
instance:Inhabited G71:=⟨⟨default,default,default⟩⟩
def c71 (x:G71):List PV:=[(iP x.fE),(iP x.fD),(iP x.fN.a0),(iP x.fN.a1),(iP x.fN.a2),(iP x.fN.a3),(iP x.fN.a4),(iP x.fN.a5)]
theorem cl71 (x:G71):Cls (c71 x):=by unfold c71;exact ClL.h
instance:ClsC c71:=⟨cl71⟩
instance {x:G71}:ClL (c71 x):=⟨cl71 x⟩
structure G111 where
 fAt:Int
 faq:Int
 faw:Bool
instance:Inhabited G111:=⟨⟨default,default,default⟩⟩
def c111 (x:G111):List PV:=[(iP x.fAt),(iP x.faq),(bP x.faw)]
theorem cl111 (x:G111):Cls (c111 x):=by unfold c111;exact ClL.h
instance:ClsC c111:=⟨cl111⟩
instance {x:G111}:ClL (c111 x):=⟨cl111 x⟩
structure G230 where
 fAt:Int
 faC:Int
instance:Inhabited G230:=⟨⟨default,default⟩⟩
def c230 (x:G230):List PV:=[(iP x.fAt),(iP x.faC)]
theorem cl230 (x:G230):Cls (c230 x):=by unfold c230;exact ClL.h
instance:ClsC c230:=⟨cl230⟩
instance {x:G230}:ClL (c230 x):=⟨cl230 x⟩
structure G100 where
 fg:(Sl G147)
 fX:(Sl G425)
instance:Inhabited G100:=⟨⟨default,default⟩⟩
def c100 (x:G100):List PV:=[(eS 13 c147 x.fg),(eS 4 c425 x.fX)]
theorem cl100 (x:G100):Cls (c100 x):=by unfold c100;exact ClL.h
instance:ClsC c100:=⟨cl100⟩
instance {x:G100}:ClL (c100 x):=⟨cl100 x⟩
structure G95 where
 fQ:(Sl G230)
 ff:(Sl G100)
instance:Inhabited G95:=⟨⟨default,default⟩⟩
def c95 (x:G95):List PV:=[(eS 2 c230 x.fQ),(eS 2 c100 x.ff)]
theorem cl95 (x:G95):Cls (c95 x):=by unfold c95;exact ClL.h
instance:ClsC c95:=⟨cl95⟩
instance {x:G95}:ClL (c95 x):=⟨cl95 x⟩
structure G75 where
 fID:G58
 fO:G71
 fao:Int
 faF:Int
 faz:Bool
 fR:Int
 fp:Int
 fan:Int
 f6:Int
 faG:Int
 faH:Int
 fap:ByteArray
 fm:(Sl G111)
 fe:(Sl G95)
instance:Inhabited G75:=⟨⟨default,default,default,default,default,default,default,default,default,default,default,default,default,default⟩⟩
def c75 (x:G75):List PV:=[(iP x.fID.fM),(iP x.fID.fV),(iP x.fO.fE),(iP x.fO.fD),(iP x.fO.fN.a0),(iP x.fO.fN.a1),(iP x.fO.fN.a2),(iP x.fO.fN.a3),(iP x.fO.fN.a4),(iP x.fO.fN.a5),(iP x.fao),(iP x.faF),(bP x.faz),(iP x.fR),(iP x.fp),(iP x.fan),(iP x.f6),(iP x.faG),(iP x.faH),(sP x.fap),(eS 3 c111 x.fm),(eS 2 c95 x.fe)]
theorem cl75 (x:G75):Cls (c75 x):=by unfold c75;exact ClL.h
instance:ClsC c75:=⟨cl75⟩
instance {x:G75}:ClL (c75 x):=⟨cl75 x⟩
structure G213 where
 fID:G58
 fj:Int
 fI:G58
 fTo:G58
instance:Inhabited G213:=⟨⟨default,default,default,default⟩⟩
def c213 (x:G213):List PV:=[(iP x.fID.fM),(iP x.fID.fV),(iP x.fj),(iP x.fI.fM),(iP x.fI.fV),(iP x.fTo.fM),(iP x.fTo.fV)]
theorem cl213 (x:G213):Cls (c213 x):=by unfold c213;exact ClL.h
instance:ClsC c213:=⟨cl213⟩
instance {x:G213}:ClL (c213 x):=⟨cl213 x⟩
structure G27 where
 fav:ByteArray
 faA:Bool
 fh:(Sl G68)
 fc:(Sl G75)
 fi:(Sl G213)
 fF:(Sl G58)
instance:Inhabited G27:=⟨⟨default,default,default,default,default,default⟩⟩
def c27 (x:G27):List PV:=[(sP x.fav),(bP x.faA),(eS 6 c68 x.fh),(eS 22 c75 x.fc),(eS 7 c213 x.fi),(eS 2 c58 x.fF)]
theorem cl27 (x:G27):Cls (c27 x):=by unfold c27;exact ClL.h
instance:ClsC c27:=⟨cl27⟩
instance {x:G27}:ClL (c27 x):=⟨cl27 x⟩
structure G159 where
 fT:Int
 faI:G58
instance:Inhabited G159:=⟨⟨default,default⟩⟩
def c159 (x:G159):List PV:=[(iP x.fT),(iP x.faI.fM),(iP x.faI.fV)]
theorem cl159 (x:G159):Cls (c159 x):=by unfold c159;exact ClL.h
instance:ClsC c159:=⟨cl159⟩
instance {x:G159}:ClL (c159 x):=⟨cl159 x⟩
structure G236 where
 fj:Int
 far:Int
 fA:Int
 fy:Int
 fw:Int
 fU:Int
 fas:Int
instance:Inhabited G236:=⟨⟨default,default,default,default,default,default,default⟩⟩
def c236 (x:G236):List PV:=[(iP x.fj),(iP x.far),(iP x.fA),(iP x.fy),(iP x.fw),(iP x.fU),(iP x.fas)]
theorem cl236 (x:G236):Cls (c236 x):=by unfold c236;exact ClL.h
instance:ClsC c236:=⟨cl236⟩
instance {x:G236}:ClL (c236 x):=⟨cl236 x⟩
def Xt (x:G236):Value:=.agg #[.int .i64 x.fj,.int .i64 x.far,.int .i64 x.fA,.int .i64 x.fy,.int .i64 x.fw,.int .i64 x.fU,.int .i64 x.fas]
def keq236 (a b:G236):Bool:=(a.fj==b.fj&&(a.far==b.far&&(a.fA==b.fA&&(a.fy==b.fy&&(a.fw==b.fw&&(a.fU==b.fU&&(a.fas==b.fas&&true)))))))
structure G326 where
 fK:ByteArray
 f7:Int
 f8:Int
 f9:Int
 faa:Int
 fab:Int
 fac:Int
instance:Inhabited G326:=⟨⟨default,default,default,default,default,default,default⟩⟩
def c326 (x:G326):List PV:=[(sP x.fK),(.sc (.int .u8 x.f7)),(iP x.f8),(iP x.f9),(iP x.faa),(iP x.fab),(iP x.fac)]
theorem cl326 (x:G326):Cls (c326 x):=by unfold c326;exact ClL.h
instance:ClsC c326:=⟨cl326⟩
instance {x:G326}:ClL (c326 x):=⟨cl326 x⟩
structure G385 where
 a0:G326
 a1:G326
 a2:G326
 a3:G326
 a4:G326
 a5:G326
 a6:G326
 a7:G326
 a8:G326
instance:Inhabited G385:=⟨⟨default,default,default,default,default,default,default,default,default⟩⟩
def c385 (x:G385):List PV:=[(sP x.a0.fK),(.sc (.int .u8 x.a0.f7)),(iP x.a0.f8),(iP x.a0.f9),(iP x.a0.faa),(iP x.a0.fab),(iP x.a0.fac),(sP x.a1.fK),(.sc (.int .u8 x.a1.f7)),(iP x.a1.f8),(iP x.a1.f9),(iP x.a1.faa),(iP x.a1.fab),(iP x.a1.fac),(sP x.a2.fK),(.sc (.int .u8 x.a2.f7)),(iP x.a2.f8),(iP x.a2.f9),(iP x.a2.faa),(iP x.a2.fab),(iP x.a2.fac),(sP x.a3.fK),(.sc (.int .u8 x.a3.f7)),(iP x.a3.f8),(iP x.a3.f9),(iP x.a3.faa),(iP x.a3.fab),(iP x.a3.fac),(sP x.a4.fK),(.sc (.int .u8 x.a4.f7)),(iP x.a4.f8),(iP x.a4.f9),(iP x.a4.faa),(iP x.a4.fab),(iP x.a4.fac),(sP x.a5.fK),(.sc (.int .u8 x.a5.f7)),(iP x.a5.f8),(iP x.a5.f9),(iP x.a5.faa),(iP x.a5.fab),(iP x.a5.fac),(sP x.a6.fK),(.sc (.int .u8 x.a6.f7)),(iP x.a6.f8),(iP x.a6.f9),(iP x.a6.faa),(iP x.a6.fab),(iP x.a6.fac),(sP x.a7.fK),(.sc (.int .u8 x.a7.f7)),(iP x.a7.f8),(iP x.a7.f9),(iP x.a7.faa),(iP x.a7.fab),(iP x.a7.fac),(sP x.a8.fK),(.sc (.int .u8 x.a8.f7)),(iP x.a8.f8),(iP x.a8.f9),(iP x.a8.faa),(iP x.a8.fab),(iP x.a8.fac)]
theorem cl385 (x:G385):Cls (c385 x):=by unfold c385;exact ClL.h
instance:ClsC c385:=⟨cl385⟩
instance {x:G385}:ClL (c385 x):=⟨cl385 x⟩
structure G273 where
 a0:Int
 a1:Int
 a2:Int
 a3:Int
 a4:Int
 a5:Int
 a6:Int
instance:Inhabited G273:=⟨⟨default,default,default,default,default,default,default⟩⟩
def c273 (x:G273):List PV:=[(iP x.a0),(iP x.a1),(iP x.a2),(iP x.a3),(iP x.a4),(iP x.a5),(iP x.a6)]
theorem cl273 (x:G273):Cls (c273 x):=by unfold c273;exact ClL.h
instance:ClsC c273:=⟨cl273⟩
instance {x:G273}:ClL (c273 x):=⟨cl273 x⟩
structure G261 where
 fy:Int
 fAt:Int
 fA:Int
 fw:Int
instance:Inhabited G261:=⟨⟨default,default,default,default⟩⟩
def c261 (x:G261):List PV:=[(iP x.fy),(iP x.fAt),(iP x.fA),(iP x.fw)]
theorem cl261 (x:G261):Cls (c261 x):=by unfold c261;exact ClL.h
instance:ClsC c261:=⟨cl261⟩
instance {x:G261}:ClL (c261 x):=⟨cl261 x⟩
structure G263 where
 fj:Int
 fI:G261
 fTo:G261
instance:Inhabited G263:=⟨⟨default,default,default⟩⟩
def c263 (x:G263):List PV:=[(iP x.fj),(iP x.fI.fy),(iP x.fI.fAt),(iP x.fI.fA),(iP x.fI.fw),(iP x.fTo.fy),(iP x.fTo.fAt),(iP x.fTo.fA),(iP x.fTo.fw)]
theorem cl263 (x:G263):Cls (c263 x):=by unfold c263;exact ClL.h
instance:ClsC c263:=⟨cl263⟩
instance {x:G263}:ClL (c263 x):=⟨cl263 x⟩
structure G265 where
 fJ:Bool
 fG:Int
 fC:Int
 f3:Int
 faf:Bool
 fo:Int
instance:Inhabited G265:=⟨⟨default,default,default,default,default,default⟩⟩
def c265 (x:G265):List PV:=[(bP x.fJ),(iP x.fG),(iP x.fC),(iP x.f3),(bP x.faf),(iP x.fo)]
theorem cl265 (x:G265):Cls (c265 x):=by unfold c265;exact ClL.h
instance:ClsC c265:=⟨cl265⟩
instance {x:G265}:ClL (c265 x):=⟨cl265 x⟩
structure G156 where
 fs:G27
 faJ:Int
 faK:(Sl G159)
instance:Inhabited G156:=⟨⟨default,default,default⟩⟩
def c156 (x:G156):List PV:=[(sP x.fs.fav),(bP x.fs.faA),(eS 6 c68 x.fs.fh),(eS 22 c75 x.fs.fc),(eS 7 c213 x.fs.fi),(eS 2 c58 x.fs.fF),(iP x.faJ),(eS 3 c159 x.faK)]
theorem cl156 (x:G156):Cls (c156 x):=by unfold c156;exact ClL.h
instance:ClsC c156:=⟨cl156⟩
instance {x:G156}:ClL (c156 x):=⟨cl156 x⟩
structure G86 where
 fOn:Int
 faL:Int
 faM:Int
instance:Inhabited G86:=⟨⟨default,default,default⟩⟩
def c86 (x:G86):List PV:=[(iP x.fOn),(iP x.faL),(iP x.faM)]
theorem cl86 (x:G86):Cls (c86 x):=by unfold c86;exact ClL.h
instance:ClsC c86:=⟨cl86⟩
instance {x:G86}:ClL (c86 x):=⟨cl86 x⟩
structure G173 where
 fL:Int
 f2:Int
 fax:Bool
instance:Inhabited G173:=⟨⟨default,default,default⟩⟩
def c173 (x:G173):List PV:=[(iP x.fL),(iP x.f2),(bP x.fax)]
theorem cl173 (x:G173):Cls (c173 x):=by unfold c173;exact ClL.h
instance:ClsC c173:=⟨cl173⟩
instance {x:G173}:ClL (c173 x):=⟨cl173 x⟩
structure G108 where
 fat:Int
 f2:Int
 fax:Bool
instance:Inhabited G108:=⟨⟨default,default,default⟩⟩
def c108 (x:G108):List PV:=[(iP x.fat),(iP x.f2),(bP x.fax)]
theorem cl108 (x:G108):Cls (c108 x):=by unfold c108;exact ClL.h
instance:ClsC c108:=⟨cl108⟩
instance {x:G108}:ClL (c108 x):=⟨cl108 x⟩
abbrev hC (s:G27) (r:Int) (l:List G159):List Blk:=[.cells (c27 s++[iP r,oP 1 3 c159 l]),.grow (List.length l) 3]
end
end Go.Proofs.YtibndgdocbbbeaaGreat
