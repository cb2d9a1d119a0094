/- A part of the proof. -/
import Derived.Test.YtnjmaohblihppaaGreatDoorSY8
set_option linter.all false
set_option maxRecDepth 100000
set_option maxHeartbeats 40000000
namespace Go.Proofs.YtnjmaohblihppaaGreatDoor
open Go.PE
noncomputable section
structure G33 where
 fG:Int
 fK:Int
instance:Inhabited G33:=⟨⟨default,default⟩⟩
def c33 (x:G33):List PV:=[(iP x.fG),(iP x.fK)]
theorem cl33 (x:G33):Cls (c33 x):=by unfold c33;exact ClL.h
instance:ClsC c33:=⟨cl33⟩
instance {x:G33}:ClL (c33 x):=⟨cl33 x⟩
def kv33 (x:G33):Value:=.agg #[.int .i64 x.fG,.int .i64 x.fK]
def keq33 (a b:G33):Bool:=(a.fG==b.fG&&(a.fK==b.fK&&true))
structure G35 where
 fP:Int
 faC:G33
instance:Inhabited G35:=⟨⟨default,default⟩⟩
def c35 (x:G35):List PV:=[(iP x.fP),(iP x.faC.fG),(iP x.faC.fK)]
theorem cl35 (x:G35):Cls (c35 x):=by unfold c35;exact ClL.h
instance:ClsC c35:=⟨cl35⟩
instance {x:G35}:ClL (c35 x):=⟨cl35 x⟩
structure G257 where
 fai:Int
 fU:Int
 fag:Int
 faj:Int
instance:Inhabited G257:=⟨⟨default,default,default,default⟩⟩
def c257 (x:G257):List PV:=[(iP x.fai),(iP x.fU),(iP x.fag),(iP x.faj)]
theorem cl257 (x:G257):Cls (c257 x):=by unfold c257;exact ClL.h
instance:ClsC c257:=⟨cl257⟩
instance {x:G257}:ClL (c257 x):=⟨cl257 x⟩
structure G86 where
 f9:Int
 fW:Int
instance:Inhabited G86:=⟨⟨default,default⟩⟩
def c86 (x:G86):List PV:=[(iP x.f9),(iP x.fW)]
theorem cl86 (x:G86):Cls (c86 x):=by unfold c86;exact ClL.h
instance:ClsC c86:=⟨cl86⟩
instance {x:G86}:ClL (c86 x):=⟨cl86 x⟩
structure G84 where
 fID:G33
 fau:Int
instance:Inhabited G84:=⟨⟨default,default⟩⟩
def c84 (x:G84):List PV:=[(iP x.fID.fG),(iP x.fID.fK),(iP x.fau)]
theorem cl84 (x:G84):Cls (c84 x):=by unfold c84;exact ClL.h
instance:ClsC c84:=⟨cl84⟩
instance {x:G84}:ClL (c84 x):=⟨cl84 x⟩
structure G89 where
 fID:G33
 fap:ByteArray
 fas:G86
 ft:(Sl G84)
instance:Inhabited G89:=⟨⟨default,default,default,default⟩⟩
def c89 (x:G89):List PV:=[(iP x.fID.fG),(iP x.fID.fK),(sP x.fap),(iP x.fas.f9),(iP x.fas.fW),(eS 3 c84 x.ft)]
theorem cl89 (x:G89):Cls (c89 x):=by unfold c89;exact ClL.h
instance:ClsC c89:=⟨cl89⟩
instance {x:G89}:ClL (c89 x):=⟨cl89 x⟩
structure G58 where
 a0:Int
 a1:Int
 a2:Int
 a3:Int
 a4:Int
 a5:Int
instance:Inhabited G58:=⟨⟨default,default,default,default,default,default⟩⟩
def c58 (x:G58):List PV:=[(iP x.a0),(iP x.a1),(iP x.a2),(iP x.a3),(iP x.a4),(iP x.a5)]
theorem cl58 (x:G58):Cls (c58 x):=by unfold c58;exact ClL.h
instance:ClsC c58:=⟨cl58⟩
instance {x:G58}:ClL (c58 x):=⟨cl58 x⟩
structure G60 where
 fU:Int
 faa:Int
 fE:G58
instance:Inhabited G60:=⟨⟨default,default,default⟩⟩
def c60 (x:G60):List PV:=[(iP x.fU),(iP x.faa),(iP x.fE.a0),(iP x.fE.a1),(iP x.fE.a2),(iP x.fE.a3),(iP x.fE.a4),(iP x.fE.a5)]
theorem cl60 (x:G60):Cls (c60 x):=by unfold c60;exact ClL.h
instance:ClsC c60:=⟨cl60⟩
instance {x:G60}:ClL (c60 x):=⟨cl60 x⟩
def kv60 (x:G60):Value:=.agg #[.int .i64 x.fU,.int .i64 x.faa,.int .i64 x.fE.a0,.int .i64 x.fE.a1,.int .i64 x.fE.a2,.int .i64 x.fE.a3,.int .i64 x.fE.a4,.int .i64 x.fE.a5]
structure G161 where
 fAt:Int
 faD:Int
 faE:Bool
instance:Inhabited G161:=⟨⟨default,default,default⟩⟩
def c161 (x:G161):List PV:=[(iP x.fAt),(iP x.faD),(bP x.faE)]
theorem cl161 (x:G161):Cls (c161 x):=by unfold c161;exact ClL.h
instance:ClsC c161:=⟨cl161⟩
instance {x:G161}:ClL (c161 x):=⟨cl161 x⟩
structure G174 where
 fAt:Int
 fau:Int
instance:Inhabited G174:=⟨⟨default,default⟩⟩
def c174 (x:G174):List PV:=[(iP x.fAt),(iP x.fau)]
theorem cl174 (x:G174):Cls (c174 x):=by unfold c174;exact ClL.h
instance:ClsC c174:=⟨cl174⟩
instance {x:G174}:ClL (c174 x):=⟨cl174 x⟩
structure G44 where
 fA:Int
 fC:Int
instance:Inhabited G44:=⟨⟨default,default⟩⟩
def c44 (x:G44):List PV:=[(iP x.fA),(iP x.fC)]
theorem cl44 (x:G44):Cls (c44 x):=by unfold c44;exact ClL.h
instance:ClsC c44:=⟨cl44⟩
instance {x:G44}:ClL (c44 x):=⟨cl44 x⟩
structure G110 where
 fS:Int
 fab:Int
 fah:Int
instance:Inhabited G110:=⟨⟨default,default,default⟩⟩
def c110 (x:G110):List PV:=[(iP x.fS),(iP x.fab),(iP x.fah)]
theorem cl110 (x:G110):Cls (c110 x):=by unfold c110;exact ClL.h
instance:ClsC c110:=⟨cl110⟩
instance {x:G110}:ClL (c110 x):=⟨cl110 x⟩
structure G112 where
 fL:G110
 fav:Bool
 fax:Int
instance:Inhabited G112:=⟨⟨default,default,default⟩⟩
def c112 (x:G112):List PV:=[(iP x.fL.fS),(iP x.fL.fab),(iP x.fL.fah),(bP x.fav),(iP x.fax)]
theorem cl112 (x:G112):Cls (c112 x):=by unfold c112;exact ClL.h
instance:ClsC c112:=⟨cl112⟩
instance {x:G112}:ClL (c112 x):=⟨cl112 x⟩
structure G144 where
 fL:G110
 fA:Int
 fay:Bool
instance:Inhabited G144:=⟨⟨default,default,default⟩⟩
def c144 (x:G144):List PV:=[(iP x.fL.fS),(iP x.fL.fab),(iP x.fL.fah),(iP x.fA),(bP x.fay)]
theorem cl144 (x:G144):Cls (c144 x):=by unfold c144;exact ClL.h
instance:ClsC c144:=⟨cl144⟩
instance {x:G144}:ClL (c144 x):=⟨cl144 x⟩
structure G135 where
 fH:ByteArray
 fad:Int
instance:Inhabited G135:=⟨⟨default,default⟩⟩
def c135 (x:G135):List PV:=[(sP x.fH),(iP x.fad)]
theorem cl135 (x:G135):Cls (c135 x):=by unfold c135;exact ClL.h
instance:ClsC c135:=⟨cl135⟩
instance {x:G135}:ClL (c135 x):=⟨cl135 x⟩
structure G49 where
 fID:G33
 fj:Int
 fv:G44
 fx:(Sl G112)
 fQ:(Sl G144)
 fV:Int
 fZ:Int
 fX:Int
 fp:(Sl G135)
 faf:Int
 fak:Int
instance:Inhabited G49:=⟨⟨default,default,default,default,default,default,default,default,default,default,default⟩⟩
def c49 (x:G49):List PV:=[(iP x.fID.fG),(iP x.fID.fK),(iP x.fj),(iP x.fv.fA),(iP x.fv.fC),(eS 5 c112 x.fx),(eS 5 c144 x.fQ),(iP x.fV),(iP x.fZ),(iP x.fX),(eS 2 c135 x.fp),(iP x.faf),(iP x.fak)]
theorem cl49 (x:G49):Cls (c49 x):=by unfold c49;exact ClL.h
instance:ClsC c49:=⟨cl49⟩
instance {x:G49}:ClL (c49 x):=⟨cl49 x⟩
structure G73 where
 fg:(Sl G49)
 fT:(Sl G257)
instance:Inhabited G73:=⟨⟨default,default⟩⟩
def c73 (x:G73):List PV:=[(eS 13 c49 x.fg),(eS 4 c257 x.fT)]
theorem cl73 (x:G73):Cls (c73 x):=by unfold c73;exact ClL.h
instance:ClsC c73:=⟨cl73⟩
instance {x:G73}:ClL (c73 x):=⟨cl73 x⟩
structure G69 where
 fM:(Sl G174)
 ff:(Sl G73)
instance:Inhabited G69:=⟨⟨default,default⟩⟩
def c69 (x:G69):List PV:=[(eS 2 c174 x.fM),(eS 2 c73 x.ff)]
theorem cl69 (x:G69):Cls (c69 x):=by unfold c69;exact ClL.h
instance:ClsC c69:=⟨cl69⟩
instance {x:G69}:ClL (c69 x):=⟨cl69 x⟩
structure G64 where
 fID:G33
 far:G60
 faw:Int
 faz:Int
 fat:Bool
 fO:Int
 fo:Int
 fal:Int
 f1:Int
 faA:Int
 faB:Int
 fam:ByteArray
 fN:(Sl G161)
 fe:(Sl G69)
instance:Inhabited G64:=⟨⟨default,default,default,default,default,default,default,default,default,default,default,default,default,default⟩⟩
def c64 (x:G64):List PV:=[(iP x.fID.fG),(iP x.fID.fK),(iP x.far.fU),(iP x.far.faa),(iP x.far.fE.a0),(iP x.far.fE.a1),(iP x.far.fE.a2),(iP x.far.fE.a3),(iP x.far.fE.a4),(iP x.far.fE.a5),(iP x.faw),(iP x.faz),(bP x.fat),(iP x.fO),(iP x.fo),(iP x.fal),(iP x.f1),(iP x.faA),(iP x.faB),(sP x.fam),(eS 3 c161 x.fN),(eS 2 c69 x.fe)]
theorem cl64 (x:G64):Cls (c64 x):=by unfold c64;exact ClL.h
instance:ClsC c64:=⟨cl64⟩
instance {x:G64}:ClL (c64 x):=⟨cl64 x⟩
structure G126 where
 fID:G33
 fj:Int
 fy:G33
 fTo:G33
instance:Inhabited G126:=⟨⟨default,default,default,default⟩⟩
def c126 (x:G126):List PV:=[(iP x.fID.fG),(iP x.fID.fK),(iP x.fj),(iP x.fy.fG),(iP x.fy.fK),(iP x.fTo.fG),(iP x.fTo.fK)]
theorem cl126 (x:G126):Cls (c126 x):=by unfold c126;exact ClL.h
instance:ClsC c126:=⟨cl126⟩
instance {x:G126}:ClL (c126 x):=⟨cl126 x⟩
structure G27 where
 fae:ByteArray
 faq:Bool
 fi:(Sl G89)
 fc:(Sl G64)
 fh:(Sl G126)
 fB:(Sl G33)
instance:Inhabited G27:=⟨⟨default,default,default,default,default,default⟩⟩
def c27 (x:G27):List PV:=[(sP x.fae),(bP x.faq),(eS 6 c89 x.fi),(eS 22 c64 x.fc),(eS 7 c126 x.fh),(eS 2 c33 x.fB)]
theorem cl27 (x:G27):Cls (c27 x):=by unfold c27;exact ClL.h
instance:ClsC c27:=⟨cl27⟩
instance {x:G27}:ClL (c27 x):=⟨cl27 x⟩
structure G39 where
 fj:Int
 fan:Int
 fu:Int
 fw:Int
 fq:Int
 fR:Int
 fao:Int
instance:Inhabited G39:=⟨⟨default,default,default,default,default,default,default⟩⟩
def c39 (x:G39):List PV:=[(iP x.fj),(iP x.fan),(iP x.fu),(iP x.fw),(iP x.fq),(iP x.fR),(iP x.fao)]
theorem cl39 (x:G39):Cls (c39 x):=by unfold c39;exact ClL.h
instance:ClsC c39:=⟨cl39⟩
instance {x:G39}:ClL (c39 x):=⟨cl39 x⟩
def kv39 (x:G39):Value:=.agg #[.int .i64 x.fj,.int .i64 x.fan,.int .i64 x.fu,.int .i64 x.fw,.int .i64 x.fq,.int .i64 x.fR,.int .i64 x.fao]
def keq39 (a b:G39):Bool:=(a.fj==b.fj&&(a.fan==b.fan&&(a.fu==b.fu&&(a.fw==b.fw&&(a.fq==b.fq&&(a.fR==b.fR&&(a.fao==b.fao&&true)))))))
structure G212 where
 fJ:ByteArray
 f2:Int
 f3:Int
 f4:Int
 f5:Int
 f7:Int
 f8:Int
instance:Inhabited G212:=⟨⟨default,default,default,default,default,default,default⟩⟩
def c212 (x:G212):List PV:=[(sP x.fJ),(.sc (.int .u8 x.f2)),(iP x.f3),(iP x.f4),(iP x.f5),(iP x.f7),(iP x.f8)]
theorem cl212 (x:G212):Cls (c212 x):=by unfold c212;exact ClL.h
instance:ClsC c212:=⟨cl212⟩
instance {x:G212}:ClL (c212 x):=⟨cl212 x⟩
structure G242 where
 a0:G212
 a1:G212
 a2:G212
 a3:G212
 a4:G212
 a5:G212
 a6:G212
 a7:G212
 a8:G212
instance:Inhabited G242:=⟨⟨default,default,default,default,default,default,default,default,default⟩⟩
def c242 (x:G242):List PV:=[(sP x.a0.fJ),(.sc (.int .u8 x.a0.f2)),(iP x.a0.f3),(iP x.a0.f4),(iP x.a0.f5),(iP x.a0.f7),(iP x.a0.f8),(sP x.a1.fJ),(.sc (.int .u8 x.a1.f2)),(iP x.a1.f3),(iP x.a1.f4),(iP x.a1.f5),(iP x.a1.f7),(iP x.a1.f8),(sP x.a2.fJ),(.sc (.int .u8 x.a2.f2)),(iP x.a2.f3),(iP x.a2.f4),(iP x.a2.f5),(iP x.a2.f7),(iP x.a2.f8),(sP x.a3.fJ),(.sc (.int .u8 x.a3.f2)),(iP x.a3.f3),(iP x.a3.f4),(iP x.a3.f5),(iP x.a3.f7),(iP x.a3.f8),(sP x.a4.fJ),(.sc (.int .u8 x.a4.f2)),(iP x.a4.f3),(iP x.a4.f4),(iP x.a4.f5),(iP x.a4.f7),(iP x.a4.f8),(sP x.a5.fJ),(.sc (.int .u8 x.a5.f2)),(iP x.a5.f3),(iP x.a5.f4),(iP x.a5.f5),(iP x.a5.f7),(iP x.a5.f8),(sP x.a6.fJ),(.sc (.int .u8 x.a6.f2)),(iP x.a6.f3),(iP x.a6.f4),(iP x.a6.f5),(iP x.a6.f7),(iP x.a6.f8),(sP x.a7.fJ),(.sc (.int .u8 x.a7.f2)),(iP x.a7.f3),(iP x.a7.f4),(iP x.a7.f5),(iP x.a7.f7),(iP x.a7.f8),(sP x.a8.fJ),(.sc (.int .u8 x.a8.f2)),(iP x.a8.f3),(iP x.a8.f4),(iP x.a8.f5),(iP x.a8.f7),(iP x.a8.f8)]
theorem cl242 (x:G242):Cls (c242 x):=by unfold c242;exact ClL.h
instance:ClsC c242:=⟨cl242⟩
instance {x:G242}:ClL (c242 x):=⟨cl242 x⟩
structure G249 where
 a0:Int
 a1:Int
 a2:Int
 a3:Int
 a4:Int
 a5:Int
 a6:Int
instance:Inhabited G249:=⟨⟨default,default,default,default,default,default,default⟩⟩
def c249 (x:G249):List PV:=[(iP x.a0),(iP x.a1),(iP x.a2),(iP x.a3),(iP x.a4),(iP x.a5),(iP x.a6)]
theorem cl249 (x:G249):Cls (c249 x):=by unfold c249;exact ClL.h
instance:ClsC c249:=⟨cl249⟩
instance {x:G249}:ClL (c249 x):=⟨cl249 x⟩
structure G193 where
 fw:Int
 fAt:Int
 fu:Int
 fq:Int
instance:Inhabited G193:=⟨⟨default,default,default,default⟩⟩
def c193 (x:G193):List PV:=[(iP x.fw),(iP x.fAt),(iP x.fu),(iP x.fq)]
theorem cl193 (x:G193):Cls (c193 x):=by unfold c193;exact ClL.h
instance:ClsC c193:=⟨cl193⟩
instance {x:G193}:ClL (c193 x):=⟨cl193 x⟩
structure G195 where
 fj:Int
 fy:G193
 fTo:G193
instance:Inhabited G195:=⟨⟨default,default,default⟩⟩
def c195 (x:G195):List PV:=[(iP x.fj),(iP x.fy.fw),(iP x.fy.fAt),(iP x.fy.fu),(iP x.fy.fq),(iP x.fTo.fw),(iP x.fTo.fAt),(iP x.fTo.fu),(iP x.fTo.fq)]
theorem cl195 (x:G195):Cls (c195 x):=by unfold c195;exact ClL.h
instance:ClsC c195:=⟨cl195⟩
instance {x:G195}:ClL (c195 x):=⟨cl195 x⟩
structure G197 where
 fI:Bool
 fF:Int
 fD:Int
 fY:Int
 fac:Bool
 fm:Int
instance:Inhabited G197:=⟨⟨default,default,default,default,default,default⟩⟩
def c197 (x:G197):List PV:=[(bP x.fI),(iP x.fF),(iP x.fD),(iP x.fY),(bP x.fac),(iP x.fm)]
theorem cl197 (x:G197):Cls (c197 x):=by unfold c197;exact ClL.h
instance:ClsC c197:=⟨cl197⟩
instance {x:G197}:ClL (c197 x):=⟨cl197 x⟩
structure G138 where
 fs:G27
 faF:Int
 faG:(Sl G35)
instance:Inhabited G138:=⟨⟨default,default,default⟩⟩
def c138 (x:G138):List PV:=[(sP x.fs.fae),(bP x.fs.faq),(eS 6 c89 x.fs.fi),(eS 22 c64 x.fs.fc),(eS 7 c126 x.fs.fh),(eS 2 c33 x.fs.fB),(iP x.faF),(eS 3 c35 x.faG)]
theorem cl138 (x:G138):Cls (c138 x):=by unfold c138;exact ClL.h
instance:ClsC c138:=⟨cl138⟩
instance {x:G138}:ClL (c138 x):=⟨cl138 x⟩
abbrev hC (s:G27) (r:Int) (l:List G35):List Blk:=[.cells (c27 s++[iP r,oP 1 3 c35 l]),.grow (List.length l) 3]
end
end Go.Proofs.YtnjmaohblihppaaGreatDoor
