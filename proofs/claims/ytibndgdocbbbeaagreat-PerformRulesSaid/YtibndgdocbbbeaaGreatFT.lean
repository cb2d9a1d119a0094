/- A part of the proof. -/
import Derived.Test.YtibndgdocbbbeaaGreatSY8
set_option linter.all false
set_option maxRecDepth 100000
set_option maxHeartbeats 40000000
namespace Go.Proofs.YtibndgdocbbbeaaGreat
open Go.PE
noncomputable section
structure G58 where
 fI:Int
 fQ:Int
instance:Inhabited G58:=⟨⟨default,default⟩⟩
def c58 (x:G58):List PV:=[(iP x.fI),(iP x.fQ)]
theorem cl58 (x:G58):Cls (c58 x):=by unfold c58;exact ClL.h
instance:ClsC c58:=⟨cl58⟩
instance {x:G58}:ClL (c58 x):=⟨cl58 x⟩
def kv58 (x:G58):Value:=.agg #[.int .i64 x.fI,.int .i64 x.fQ]
def keq58 (a b:G58):Bool:=(a.fI==b.fI&&(a.fQ==b.fQ&&true))
structure G65 where
 faf:Int
 f2:Int
instance:Inhabited G65:=⟨⟨default,default⟩⟩
def c65 (x:G65):List PV:=[(iP x.faf),(iP x.f2)]
theorem cl65 (x:G65):Cls (c65 x):=by unfold c65;exact ClL.h
instance:ClsC c65:=⟨cl65⟩
instance {x:G65}:ClL (c65 x):=⟨cl65 x⟩
structure G184 where
 fID:G58
 faz:Int
instance:Inhabited G184:=⟨⟨default,default⟩⟩
def c184 (x:G184):List PV:=[(iP x.fID.fI),(iP x.fID.fQ),(iP x.faz)]
theorem cl184 (x:G184):Cls (c184 x):=by unfold c184;exact ClL.h
instance:ClsC c184:=⟨cl184⟩
instance {x:G184}:ClL (c184 x):=⟨cl184 x⟩
structure G68 where
 fID:G58
 fau:ByteArray
 fax:G65
 fq:(Sl G184)
instance:Inhabited G68:=⟨⟨default,default,default,default⟩⟩
def c68 (x:G68):List PV:=[(iP x.fID.fI),(iP x.fID.fQ),(sP x.fau),(iP x.fax.faf),(iP x.fax.f2),(eS 3 c184 x.fq)]
theorem cl68 (x:G68):Cls (c68 x):=by unfold c68;exact ClL.h
instance:ClsC c68:=⟨cl68⟩
instance {x:G68}:ClL (c68 x):=⟨cl68 x⟩
structure G69 where
 a0:Int
 a1:Int
 a2:Int
 a3:Int
 a4:Int
 a5:Int
instance:Inhabited G69:=⟨⟨default,default,default,default,default,default⟩⟩
def c69 (x:G69):List PV:=[(iP x.a0),(iP x.a1),(iP x.a2),(iP x.a3),(iP x.a4),(iP x.a5)]
theorem cl69 (x:G69):Cls (c69 x):=by unfold c69;exact ClL.h
instance:ClsC c69:=⟨cl69⟩
instance {x:G69}:ClL (c69 x):=⟨cl69 x⟩
def kv69 (x:G69):Value:=.agg #[.int .i64 x.a0,.int .i64 x.a1,.int .i64 x.a2,.int .i64 x.a3,.int .i64 x.a4,.int .i64 x.a5]
structure G71 where
 f3:Int
 fai:Int
 fK:G69
instance:Inhabited G71:=⟨⟨default,default,default⟩⟩
def c71 (x:G71):List PV:=[(iP x.f3),(iP x.fai),(iP x.fK.a0),(iP x.fK.a1),(iP x.fK.a2),(iP x.fK.a3),(iP x.fK.a4),(iP x.fK.a5)]
theorem cl71 (x:G71):Cls (c71 x):=by unfold c71;exact ClL.h
instance:ClsC c71:=⟨cl71⟩
instance {x:G71}:ClL (c71 x):=⟨cl71 x⟩
structure G111 where
 fAt:Int
 faI:Int
 faK:Bool
instance:Inhabited G111:=⟨⟨default,default,default⟩⟩
def c111 (x:G111):List PV:=[(iP x.fAt),(iP x.faI),(bP x.faK)]
theorem cl111 (x:G111):Cls (c111 x):=by unfold c111;exact ClL.h
instance:ClsC c111:=⟨cl111⟩
instance {x:G111}:ClL (c111 x):=⟨cl111 x⟩
structure G230 where
 fAt:Int
 faz:Int
instance:Inhabited G230:=⟨⟨default,default⟩⟩
def c230 (x:G230):List PV:=[(iP x.fAt),(iP x.faz)]
theorem cl230 (x:G230):Cls (c230 x):=by unfold c230;exact ClL.h
instance:ClsC c230:=⟨cl230⟩
instance {x:G230}:ClL (c230 x):=⟨cl230 x⟩
structure G142 where
 fw:Int
 fA:Int
instance:Inhabited G142:=⟨⟨default,default⟩⟩
def c142 (x:G142):List PV:=[(iP x.fw),(iP x.fA)]
theorem cl142 (x:G142):Cls (c142 x):=by unfold c142;exact ClL.h
instance:ClsC c142:=⟨cl142⟩
instance {x:G142}:ClL (c142 x):=⟨cl142 x⟩
structure G80 where
 fX:Int
 fag:Int
 fal:Int
instance:Inhabited G80:=⟨⟨default,default,default⟩⟩
def c80 (x:G80):List PV:=[(iP x.fX),(iP x.fag),(iP x.fal)]
theorem cl80 (x:G80):Cls (c80 x):=by unfold c80;exact ClL.h
instance:ClsC c80:=⟨cl80⟩
instance {x:G80}:ClL (c80 x):=⟨cl80 x⟩
structure G182 where
 fM:G80
 faA:Bool
 faD:Int
instance:Inhabited G182:=⟨⟨default,default,default⟩⟩
def c182 (x:G182):List PV:=[(iP x.fM.fX),(iP x.fM.fag),(iP x.fM.fal),(bP x.faA),(iP x.faD)]
theorem cl182 (x:G182):Cls (c182 x):=by unfold c182;exact ClL.h
instance:ClsC c182:=⟨cl182⟩
instance {x:G182}:ClL (c182 x):=⟨cl182 x⟩
structure G245 where
 fM:G80
 fw:Int
 faE:Bool
instance:Inhabited G245:=⟨⟨default,default,default⟩⟩
def c245 (x:G245):List PV:=[(iP x.fM.fX),(iP x.fM.fag),(iP x.fM.fal),(iP x.fw),(bP x.faE)]
theorem cl245 (x:G245):Cls (c245 x):=by unfold c245;exact ClL.h
instance:ClsC c245:=⟨cl245⟩
instance {x:G245}:ClL (c245 x):=⟨cl245 x⟩
structure G171 where
 fF:ByteArray
 faj:Int
instance:Inhabited G171:=⟨⟨default,default⟩⟩
def c171 (x:G171):List PV:=[(sP x.fF),(iP x.faj)]
theorem cl171 (x:G171):Cls (c171 x):=by unfold c171;exact ClL.h
instance:ClsC c171:=⟨cl171⟩
instance {x:G171}:ClL (c171 x):=⟨cl171 x⟩
structure G147 where
 fID:G58
 fj:Int
 ft:G142
 fu:(Sl G182)
 fW:(Sl G245)
 f1:Int
 f7:Int
 f4:Int
 fp:(Sl G171)
 fak:Int
 fan:Int
instance:Inhabited G147:=⟨⟨default,default,default,default,default,default,default,default,default,default,default⟩⟩
def c147 (x:G147):List PV:=[(iP x.fID.fI),(iP x.fID.fQ),(iP x.fj),(iP x.ft.fw),(iP x.ft.fA),(eS 5 c182 x.fu),(eS 5 c245 x.fW),(iP x.f1),(iP x.f7),(iP x.f4),(eS 2 c171 x.fp),(iP x.fak),(iP x.fan)]
theorem cl147 (x:G147):Cls (c147 x):=by unfold c147;exact ClL.h
instance:ClsC c147:=⟨cl147⟩
instance {x:G147}:ClL (c147 x):=⟨cl147 x⟩
structure G425 where
 fao:Int
 f3:Int
 fam:Int
 fap:Int
instance:Inhabited G425:=⟨⟨default,default,default,default⟩⟩
def c425 (x:G425):List PV:=[(iP x.fao),(iP x.f3),(iP x.fam),(iP x.fap)]
theorem cl425 (x:G425):Cls (c425 x):=by unfold c425;exact ClL.h
instance:ClsC c425:=⟨cl425⟩
instance {x:G425}:ClL (c425 x):=⟨cl425 x⟩
structure G100 where
 fg:(Sl G147)
 fY:(Sl G425)
instance:Inhabited G100:=⟨⟨default,default⟩⟩
def c100 (x:G100):List PV:=[(eS 13 c147 x.fg),(eS 4 c425 x.fY)]
theorem cl100 (x:G100):Cls (c100 x):=by unfold c100;exact ClL.h
instance:ClsC c100:=⟨cl100⟩
instance {x:G100}:ClL (c100 x):=⟨cl100 x⟩
structure G95 where
 fN:(Sl G230)
 ff:(Sl G100)
instance:Inhabited G95:=⟨⟨default,default⟩⟩
def c95 (x:G95):List PV:=[(eS 2 c230 x.fN),(eS 2 c100 x.ff)]
theorem cl95 (x:G95):Cls (c95 x):=by unfold c95;exact ClL.h
instance:ClsC c95:=⟨cl95⟩
instance {x:G95}:ClL (c95 x):=⟨cl95 x⟩
structure G75 where
 fID:G58
 faw:G71
 faB:Int
 faF:Int
 fay:Bool
 fU:Int
 fo:Int
 faq:Int
 f8:Int
 faG:Int
 faH:Int
 fas:ByteArray
 fT:(Sl G111)
 fe:(Sl G95)
instance:Inhabited G75:=⟨⟨default,default,default,default,default,default,default,default,default,default,default,default,default,default⟩⟩
def c75 (x:G75):List PV:=[(iP x.fID.fI),(iP x.fID.fQ),(iP x.faw.f3),(iP x.faw.fai),(iP x.faw.fK.a0),(iP x.faw.fK.a1),(iP x.faw.fK.a2),(iP x.faw.fK.a3),(iP x.faw.fK.a4),(iP x.faw.fK.a5),(iP x.faB),(iP x.faF),(bP x.fay),(iP x.fU),(iP x.fo),(iP x.faq),(iP x.f8),(iP x.faG),(iP x.faH),(sP x.fas),(eS 3 c111 x.fT),(eS 2 c95 x.fe)]
theorem cl75 (x:G75):Cls (c75 x):=by unfold c75;exact ClL.h
instance:ClsC c75:=⟨cl75⟩
instance {x:G75}:ClL (c75 x):=⟨cl75 x⟩
structure G213 where
 fID:G58
 fj:Int
 fG:G58
 fTo:G58
instance:Inhabited G213:=⟨⟨default,default,default,default⟩⟩
def c213 (x:G213):List PV:=[(iP x.fID.fI),(iP x.fID.fQ),(iP x.fj),(iP x.fG.fI),(iP x.fG.fQ),(iP x.fTo.fI),(iP x.fTo.fQ)]
theorem cl213 (x:G213):Cls (c213 x):=by unfold c213;exact ClL.h
instance:ClsC c213:=⟨cl213⟩
instance {x:G213}:ClL (c213 x):=⟨cl213 x⟩
structure G27 where
 fav:ByteArray
 faC:Bool
 fh:(Sl G68)
 fc:(Sl G75)
 fi:(Sl G213)
 fD:(Sl G58)
instance:Inhabited G27:=⟨⟨default,default,default,default,default,default⟩⟩
def c27 (x:G27):List PV:=[(sP x.fav),(bP x.faC),(eS 6 c68 x.fh),(eS 22 c75 x.fc),(eS 7 c213 x.fi),(eS 2 c58 x.fD)]
theorem cl27 (x:G27):Cls (c27 x):=by unfold c27;exact ClL.h
instance:ClsC c27:=⟨cl27⟩
instance {x:G27}:ClL (c27 x):=⟨cl27 x⟩
structure G123 where
 fOn:Int
 faL:Int
 fQ:Int
 faM:Int
 far:Int
 fO:G58
instance:Inhabited G123:=⟨⟨default,default,default,default,default,default⟩⟩
def c123 (x:G123):List PV:=[(iP x.fOn),(iP x.faL),(iP x.fQ),(iP x.faM),(iP x.far),(iP x.fO.fI),(iP x.fO.fQ)]
theorem cl123 (x:G123):Cls (c123 x):=by unfold c123;exact ClL.h
instance:ClsC c123:=⟨cl123⟩
instance {x:G123}:ClL (c123 x):=⟨cl123 x⟩
structure G159 where
 fZ:Int
 faJ:G58
instance:Inhabited G159:=⟨⟨default,default⟩⟩
def c159 (x:G159):List PV:=[(iP x.fZ),(iP x.faJ.fI),(iP x.faJ.fQ)]
theorem cl159 (x:G159):Cls (c159 x):=by unfold c159;exact ClL.h
instance:ClsC c159:=⟨cl159⟩
instance {x:G159}:ClL (c159 x):=⟨cl159 x⟩
structure G236 where
 fj:Int
 far:Int
 fy:Int
 fx:Int
 fv:Int
 fO:Int
 fat:Int
instance:Inhabited G236:=⟨⟨default,default,default,default,default,default,default⟩⟩
def c236 (x:G236):List PV:=[(iP x.fj),(iP x.far),(iP x.fy),(iP x.fx),(iP x.fv),(iP x.fO),(iP x.fat)]
theorem cl236 (x:G236):Cls (c236 x):=by unfold c236;exact ClL.h
instance:ClsC c236:=⟨cl236⟩
instance {x:G236}:ClL (c236 x):=⟨cl236 x⟩
def Xr (x:G236):Value:=.agg #[.int .i64 x.fj,.int .i64 x.far,.int .i64 x.fy,.int .i64 x.fx,.int .i64 x.fv,.int .i64 x.fO,.int .i64 x.fat]
def keq236 (a b:G236):Bool:=(a.fj==b.fj&&(a.far==b.far&&(a.fy==b.fy&&(a.fx==b.fx&&(a.fv==b.fv&&(a.fO==b.fO&&(a.fat==b.fat&&true)))))))
structure G326 where
 fJ:ByteArray
 f9:Int
 faa:Int
 fab:Int
 fac:Int
 fad:Int
 fae:Int
instance:Inhabited G326:=⟨⟨default,default,default,default,default,default,default⟩⟩
def c326 (x:G326):List PV:=[(sP x.fJ),(.sc (.int .u8 x.f9)),(iP x.faa),(iP x.fab),(iP x.fac),(iP x.fad),(iP x.fae)]
theorem cl326 (x:G326):Cls (c326 x):=by unfold c326;exact ClL.h
instance:ClsC c326:=⟨cl326⟩
instance {x:G326}:ClL (c326 x):=⟨cl326 x⟩
structure G385 where
 a0:G326
 a1:G326
 a2:G326
 a3:G326
 a4:G326
 a5:G326
 a6:G326
 a7:G326
 a8:G326
instance:Inhabited G385:=⟨⟨default,default,default,default,default,default,default,default,default⟩⟩
def c385 (x:G385):List PV:=[(sP x.a0.fJ),(.sc (.int .u8 x.a0.f9)),(iP x.a0.faa),(iP x.a0.fab),(iP x.a0.fac),(iP x.a0.fad),(iP x.a0.fae),(sP x.a1.fJ),(.sc (.int .u8 x.a1.f9)),(iP x.a1.faa),(iP x.a1.fab),(iP x.a1.fac),(iP x.a1.fad),(iP x.a1.fae),(sP x.a2.fJ),(.sc (.int .u8 x.a2.f9)),(iP x.a2.faa),(iP x.a2.fab),(iP x.a2.fac),(iP x.a2.fad),(iP x.a2.fae),(sP x.a3.fJ),(.sc (.int .u8 x.a3.f9)),(iP x.a3.faa),(iP x.a3.fab),(iP x.a3.fac),(iP x.a3.fad),(iP x.a3.fae),(sP x.a4.fJ),(.sc (.int .u8 x.a4.f9)),(iP x.a4.faa),(iP x.a4.fab),(iP x.a4.fac),(iP x.a4.fad),(iP x.a4.fae),(sP x.a5.fJ),(.sc (.int .u8 x.a5.f9)),(iP x.a5.faa),(iP x.a5.fab),(iP x.a5.fac),(iP x.a5.fad),(iP x.a5.fae),(sP x.a6.fJ),(.sc (.int .u8 x.a6.f9)),(iP x.a6.faa),(iP x.a6.fab),(iP x.a6.fac),(iP x.a6.fad),(iP x.a6.fae),(sP x.a7.fJ),(.sc (.int .u8 x.a7.f9)),(iP x.a7.faa),(iP x.a7.fab),(iP x.a7.fac),(iP x.a7.fad),(iP x.a7.fae),(sP x.a8.fJ),(.sc (.int .u8 x.a8.f9)),(iP x.a8.faa),(iP x.a8.fab),(iP x.a8.fac),(iP x.a8.fad),(iP x.a8.fae)]
theorem cl385 (x:G385):Cls (c385 x):=by unfold c385;exact ClL.h
instance:ClsC c385:=⟨cl385⟩
instance {x:G385}:ClL (c385 x):=⟨cl385 x⟩
structure G273 where
 a0:Int
 a1:Int
 a2:Int
 a3:Int
 a4:Int
 a5:Int
 a6:Int
instance:Inhabited G273:=⟨⟨default,default,default,default,default,default,default⟩⟩
def c273 (x:G273):List PV:=[(iP x.a0),(iP x.a1),(iP x.a2),(iP x.a3),(iP x.a4),(iP x.a5),(iP x.a6)]
theorem cl273 (x:G273):Cls (c273 x):=by unfold c273;exact ClL.h
instance:ClsC c273:=⟨cl273⟩
instance {x:G273}:ClL (c273 x):=⟨cl273 x⟩
structure G261 where
 fx:Int
 fAt:Int
 fy:Int
 fv:Int
instance:Inhabited G261:=⟨⟨default,default,default,default⟩⟩
def c261 (x:G261):List PV:=[(iP x.fx),(iP x.fAt),(iP x.fy),(iP x.fv)]
theorem cl261 (x:G261):Cls (c261 x):=by unfold c261;exact ClL.h
instance:ClsC c261:=⟨cl261⟩
instance {x:G261}:ClL (c261 x):=⟨cl261 x⟩
structure G263 where
 fj:Int
 fG:G261
 fTo:G261
instance:Inhabited G263:=⟨⟨default,default,default⟩⟩
def c263 (x:G263):List PV:=[(iP x.fj),(iP x.fG.fx),(iP x.fG.fAt),(iP x.fG.fy),(iP x.fG.fv),(iP x.fTo.fx),(iP x.fTo.fAt),(iP x.fTo.fy),(iP x.fTo.fv)]
theorem cl263 (x:G263):Cls (c263 x):=by unfold c263;exact ClL.h
instance:ClsC c263:=⟨cl263⟩
instance {x:G263}:ClL (c263 x):=⟨cl263 x⟩
structure G265 where
 fH:Bool
 fE:Int
 fC:Int
 f5:Int
 fah:Bool
 fm:Int
instance:Inhabited G265:=⟨⟨default,default,default,default,default,default⟩⟩
def c265 (x:G265):List PV:=[(bP x.fH),(iP x.fE),(iP x.fC),(iP x.f5),(bP x.fah),(iP x.fm)]
theorem cl265 (x:G265):Cls (c265 x):=by unfold c265;exact ClL.h
instance:ClsC c265:=⟨cl265⟩
instance {x:G265}:ClL (c265 x):=⟨cl265 x⟩
structure G156 where
 fs:G27
 faN:Int
 faO:(Sl G159)
instance:Inhabited G156:=⟨⟨default,default,default⟩⟩
def c156 (x:G156):List PV:=[(sP x.fs.fav),(bP x.fs.faC),(eS 6 c68 x.fs.fh),(eS 22 c75 x.fs.fc),(eS 7 c213 x.fs.fi),(eS 2 c58 x.fs.fD),(iP x.faN),(eS 3 c159 x.faO)]
theorem cl156 (x:G156):Cls (c156 x):=by unfold c156;exact ClL.h
instance:ClsC c156:=⟨cl156⟩
instance {x:G156}:ClL (c156 x):=⟨cl156 x⟩
abbrev hC (s:G27) (r:Int) (l:List G159):List Blk:=[.cells (c27 s++[iP r,oP 1 3 c159 l]),.grow (List.length l) 3]
end
end Go.Proofs.YtibndgdocbbbeaaGreat
