/- A part of the proof. -/
import Derived.Test.YtnjmaohblihppaaGreatDoorSY8
set_option linter.all false
set_option maxRecDepth 100000
set_option maxHeartbeats 40000000
namespace Go.Proofs.YtnjmaohblihppaaGreatDoor
open Go.PE
noncomputable section
structure G33 where
 fp:Int
 fq:Int
instance:Inhabited G33:=⟨⟨default,default⟩⟩
def c33 (x:G33):List PV:=[(iP x.fp),(iP x.fq)]
theorem cl33 (x:G33):Cls (c33 x):=by unfold c33;exact ClL.h
instance:ClsC c33:=⟨cl33⟩
instance {x:G33}:ClL (c33 x):=⟨cl33 x⟩
def kv33 (x:G33):Value:=.agg #[.int .i64 x.fp,.int .i64 x.fq]
def keq33 (a b:G33):Bool:=(a.fp==b.fp&&(a.fq==b.fq&&true))
structure G35 where
 fi:Int
 fm:G33
instance:Inhabited G35:=⟨⟨default,default⟩⟩
def c35 (x:G35):List PV:=[(iP x.fi),(iP x.fm.fp),(iP x.fm.fq)]
theorem cl35 (x:G35):Cls (c35 x):=by unfold c35;exact ClL.h
instance:ClsC c35:=⟨cl35⟩
instance {x:G35}:ClL (c35 x):=⟨cl35 x⟩
structure G257 where
 fak:Int
 fV:Int
 fai:Int
 fal:Int
instance:Inhabited G257:=⟨⟨default,default,default,default⟩⟩
def c257 (x:G257):List PV:=[(iP x.fak),(iP x.fV),(iP x.fai),(iP x.fal)]
theorem cl257 (x:G257):Cls (c257 x):=by unfold c257;exact ClL.h
instance:ClsC c257:=⟨cl257⟩
instance {x:G257}:ClL (c257 x):=⟨cl257 x⟩
structure G86 where
 fac:Int
 fX:Int
instance:Inhabited G86:=⟨⟨default,default⟩⟩
def c86 (x:G86):List PV:=[(iP x.fac),(iP x.fX)]
theorem cl86 (x:G86):Cls (c86 x):=by unfold c86;exact ClL.h
instance:ClsC c86:=⟨cl86⟩
instance {x:G86}:ClL (c86 x):=⟨cl86 x⟩
structure G84 where
 fID:G33
 fax:Int
instance:Inhabited G84:=⟨⟨default,default⟩⟩
def c84 (x:G84):List PV:=[(iP x.fID.fp),(iP x.fID.fq),(iP x.fax)]
theorem cl84 (x:G84):Cls (c84 x):=by unfold c84;exact ClL.h
instance:ClsC c84:=⟨cl84⟩
instance {x:G84}:ClL (c84 x):=⟨cl84 x⟩
structure G89 where
 fID:G33
 fas:ByteArray
 fau:G86
 fw:(Sl G84)
instance:Inhabited G89:=⟨⟨default,default,default,default⟩⟩
def c89 (x:G89):List PV:=[(iP x.fID.fp),(iP x.fID.fq),(sP x.fas),(iP x.fau.fac),(iP x.fau.fX),(eS 3 c84 x.fw)]
theorem cl89 (x:G89):Cls (c89 x):=by unfold c89;exact ClL.h
instance:ClsC c89:=⟨cl89⟩
instance {x:G89}:ClL (c89 x):=⟨cl89 x⟩
structure G58 where
 a0:Int
 a1:Int
 a2:Int
 a3:Int
 a4:Int
 a5:Int
instance:Inhabited G58:=⟨⟨default,default,default,default,default,default⟩⟩
def c58 (x:G58):List PV:=[(iP x.a0),(iP x.a1),(iP x.a2),(iP x.a3),(iP x.a4),(iP x.a5)]
theorem cl58 (x:G58):Cls (c58 x):=by unfold c58;exact ClL.h
instance:ClsC c58:=⟨cl58⟩
instance {x:G58}:ClL (c58 x):=⟨cl58 x⟩
structure G60 where
 fV:Int
 fad:Int
 fH:G58
instance:Inhabited G60:=⟨⟨default,default,default⟩⟩
def c60 (x:G60):List PV:=[(iP x.fV),(iP x.fad),(iP x.fH.a0),(iP x.fH.a1),(iP x.fH.a2),(iP x.fH.a3),(iP x.fH.a4),(iP x.fH.a5)]
theorem cl60 (x:G60):Cls (c60 x):=by unfold c60;exact ClL.h
instance:ClsC c60:=⟨cl60⟩
instance {x:G60}:ClL (c60 x):=⟨cl60 x⟩
def kv60 (x:G60):Value:=.agg #[.int .i64 x.fV,.int .i64 x.fad,.int .i64 x.fH.a0,.int .i64 x.fH.a1,.int .i64 x.fH.a2,.int .i64 x.fH.a3,.int .i64 x.fH.a4,.int .i64 x.fH.a5]
structure G161 where
 fAt:Int
 faF:Int
 faG:Bool
instance:Inhabited G161:=⟨⟨default,default,default⟩⟩
def c161 (x:G161):List PV:=[(iP x.fAt),(iP x.faF),(bP x.faG)]
theorem cl161 (x:G161):Cls (c161 x):=by unfold c161;exact ClL.h
instance:ClsC c161:=⟨cl161⟩
instance {x:G161}:ClL (c161 x):=⟨cl161 x⟩
structure G174 where
 fAt:Int
 fax:Int
instance:Inhabited G174:=⟨⟨default,default⟩⟩
def c174 (x:G174):List PV:=[(iP x.fAt),(iP x.fax)]
theorem cl174 (x:G174):Cls (c174 x):=by unfold c174;exact ClL.h
instance:ClsC c174:=⟨cl174⟩
instance {x:G174}:ClL (c174 x):=⟨cl174 x⟩
structure G44 where
 fB:Int
 fE:Int
instance:Inhabited G44:=⟨⟨default,default⟩⟩
def c44 (x:G44):List PV:=[(iP x.fB),(iP x.fE)]
theorem cl44 (x:G44):Cls (c44 x):=by unfold c44;exact ClL.h
instance:ClsC c44:=⟨cl44⟩
instance {x:G44}:ClL (c44 x):=⟨cl44 x⟩
structure G110 where
 fT:Int
 fae:Int
 faj:Int
instance:Inhabited G110:=⟨⟨default,default,default⟩⟩
def c110 (x:G110):List PV:=[(iP x.fT),(iP x.fae),(iP x.faj)]
theorem cl110 (x:G110):Cls (c110 x):=by unfold c110;exact ClL.h
instance:ClsC c110:=⟨cl110⟩
instance {x:G110}:ClL (c110 x):=⟨cl110 x⟩
structure G112 where
 fN:G110
 fay:Bool
 faA:Int
instance:Inhabited G112:=⟨⟨default,default,default⟩⟩
def c112 (x:G112):List PV:=[(iP x.fN.fT),(iP x.fN.fae),(iP x.fN.faj),(bP x.fay),(iP x.faA)]
theorem cl112 (x:G112):Cls (c112 x):=by unfold c112;exact ClL.h
instance:ClsC c112:=⟨cl112⟩
instance {x:G112}:ClL (c112 x):=⟨cl112 x⟩
structure G144 where
 fN:G110
 fB:Int
 faB:Bool
instance:Inhabited G144:=⟨⟨default,default,default⟩⟩
def c144 (x:G144):List PV:=[(iP x.fN.fT),(iP x.fN.fae),(iP x.fN.faj),(iP x.fB),(bP x.faB)]
theorem cl144 (x:G144):Cls (c144 x):=by unfold c144;exact ClL.h
instance:ClsC c144:=⟨cl144⟩
instance {x:G144}:ClL (c144 x):=⟨cl144 x⟩
structure G135 where
 fJ:ByteArray
 fag:Int
instance:Inhabited G135:=⟨⟨default,default⟩⟩
def c135 (x:G135):List PV:=[(sP x.fJ),(iP x.fag)]
theorem cl135 (x:G135):Cls (c135 x):=by unfold c135;exact ClL.h
instance:ClsC c135:=⟨cl135⟩
instance {x:G135}:ClL (c135 x):=⟨cl135 x⟩
structure G49 where
 fID:G33
 fo:Int
 fx:G44
 fy:(Sl G112)
 fR:(Sl G144)
 fW:Int
 f3:Int
 fY:Int
 fv:(Sl G135)
 fah:Int
 fam:Int
instance:Inhabited G49:=⟨⟨default,default,default,default,default,default,default,default,default,default,default⟩⟩
def c49 (x:G49):List PV:=[(iP x.fID.fp),(iP x.fID.fq),(iP x.fo),(iP x.fx.fB),(iP x.fx.fE),(eS 5 c112 x.fy),(eS 5 c144 x.fR),(iP x.fW),(iP x.f3),(iP x.fY),(eS 2 c135 x.fv),(iP x.fah),(iP x.fam)]
theorem cl49 (x:G49):Cls (c49 x):=by unfold c49;exact ClL.h
instance:ClsC c49:=⟨cl49⟩
instance {x:G49}:ClL (c49 x):=⟨cl49 x⟩
structure G73 where
 fg:(Sl G49)
 fU:(Sl G257)
instance:Inhabited G73:=⟨⟨default,default⟩⟩
def c73 (x:G73):List PV:=[(eS 13 c49 x.fg),(eS 4 c257 x.fU)]
theorem cl73 (x:G73):Cls (c73 x):=by unfold c73;exact ClL.h
instance:ClsC c73:=⟨cl73⟩
instance {x:G73}:ClL (c73 x):=⟨cl73 x⟩
structure G69 where
 fO:(Sl G174)
 ff:(Sl G73)
instance:Inhabited G69:=⟨⟨default,default⟩⟩
def c69 (x:G69):List PV:=[(eS 2 c174 x.fO),(eS 2 c73 x.ff)]
theorem cl69 (x:G69):Cls (c69 x):=by unfold c69;exact ClL.h
instance:ClsC c69:=⟨cl69⟩
instance {x:G69}:ClL (c69 x):=⟨cl69 x⟩
structure G64 where
 fID:G33
 fat:G60
 faz:Int
 faC:Int
 fav:Bool
 fQ:Int
 fu:Int
 fan:Int
 f4:Int
 faD:Int
 faE:Int
 fao:ByteArray
 fP:(Sl G161)
 fe:(Sl G69)
instance:Inhabited G64:=⟨⟨default,default,default,default,default,default,default,default,default,default,default,default,default,default⟩⟩
def c64 (x:G64):List PV:=[(iP x.fID.fp),(iP x.fID.fq),(iP x.fat.fV),(iP x.fat.fad),(iP x.fat.fH.a0),(iP x.fat.fH.a1),(iP x.fat.fH.a2),(iP x.fat.fH.a3),(iP x.fat.fH.a4),(iP x.fat.fH.a5),(iP x.faz),(iP x.faC),(bP x.fav),(iP x.fQ),(iP x.fu),(iP x.fan),(iP x.f4),(iP x.faD),(iP x.faE),(sP x.fao),(eS 3 c161 x.fP),(eS 2 c69 x.fe)]
theorem cl64 (x:G64):Cls (c64 x):=by unfold c64;exact ClL.h
instance:ClsC c64:=⟨cl64⟩
instance {x:G64}:ClL (c64 x):=⟨cl64 x⟩
structure G126 where
 fID:G33
 fo:Int
 fK:G33
 fTo:G33
instance:Inhabited G126:=⟨⟨default,default,default,default⟩⟩
def c126 (x:G126):List PV:=[(iP x.fID.fp),(iP x.fID.fq),(iP x.fo),(iP x.fK.fp),(iP x.fK.fq),(iP x.fTo.fp),(iP x.fTo.fq)]
theorem cl126 (x:G126):Cls (c126 x):=by unfold c126;exact ClL.h
instance:ClsC c126:=⟨cl126⟩
instance {x:G126}:ClL (c126 x):=⟨cl126 x⟩
structure G27 where
 fap:ByteArray
 faw:Bool
 fh:(Sl G89)
 fc:(Sl G64)
 fj:(Sl G126)
 fG:(Sl G33)
instance:Inhabited G27:=⟨⟨default,default,default,default,default,default⟩⟩
def c27 (x:G27):List PV:=[(sP x.fap),(bP x.faw),(eS 6 c89 x.fh),(eS 22 c64 x.fc),(eS 7 c126 x.fj),(eS 2 c33 x.fG)]
theorem cl27 (x:G27):Cls (c27 x):=by unfold c27;exact ClL.h
instance:ClsC c27:=⟨cl27⟩
instance {x:G27}:ClL (c27 x):=⟨cl27 x⟩
structure G39 where
 fo:Int
 faq:Int
 fD:Int
 fC:Int
 fA:Int
 fS:Int
 far:Int
instance:Inhabited G39:=⟨⟨default,default,default,default,default,default,default⟩⟩
def c39 (x:G39):List PV:=[(iP x.fo),(iP x.faq),(iP x.fD),(iP x.fC),(iP x.fA),(iP x.fS),(iP x.far)]
theorem cl39 (x:G39):Cls (c39 x):=by unfold c39;exact ClL.h
instance:ClsC c39:=⟨cl39⟩
instance {x:G39}:ClL (c39 x):=⟨cl39 x⟩
def kv39 (x:G39):Value:=.agg #[.int .i64 x.fo,.int .i64 x.faq,.int .i64 x.fD,.int .i64 x.fC,.int .i64 x.fA,.int .i64 x.fS,.int .i64 x.far]
def keq39 (a b:G39):Bool:=(a.fo==b.fo&&(a.faq==b.faq&&(a.fD==b.fD&&(a.fC==b.fC&&(a.fA==b.fA&&(a.fS==b.fS&&(a.far==b.far&&true)))))))
structure G212 where
 fM:ByteArray
 f5:Int
 f6:Int
 f7:Int
 f9:Int
 faa:Int
 fab:Int
instance:Inhabited G212:=⟨⟨default,default,default,default,default,default,default⟩⟩
def c212 (x:G212):List PV:=[(sP x.fM),(.sc (.int .u8 x.f5)),(iP x.f6),(iP x.f7),(iP x.f9),(iP x.faa),(iP x.fab)]
theorem cl212 (x:G212):Cls (c212 x):=by unfold c212;exact ClL.h
instance:ClsC c212:=⟨cl212⟩
instance {x:G212}:ClL (c212 x):=⟨cl212 x⟩
structure G242 where
 a0:G212
 a1:G212
 a2:G212
 a3:G212
 a4:G212
 a5:G212
 a6:G212
 a7:G212
 a8:G212
instance:Inhabited G242:=⟨⟨default,default,default,default,default,default,default,default,default⟩⟩
def c242 (x:G242):List PV:=[(sP x.a0.fM),(.sc (.int .u8 x.a0.f5)),(iP x.a0.f6),(iP x.a0.f7),(iP x.a0.f9),(iP x.a0.faa),(iP x.a0.fab),(sP x.a1.fM),(.sc (.int .u8 x.a1.f5)),(iP x.a1.f6),(iP x.a1.f7),(iP x.a1.f9),(iP x.a1.faa),(iP x.a1.fab),(sP x.a2.fM),(.sc (.int .u8 x.a2.f5)),(iP x.a2.f6),(iP x.a2.f7),(iP x.a2.f9),(iP x.a2.faa),(iP x.a2.fab),(sP x.a3.fM),(.sc (.int .u8 x.a3.f5)),(iP x.a3.f6),(iP x.a3.f7),(iP x.a3.f9),(iP x.a3.faa),(iP x.a3.fab),(sP x.a4.fM),(.sc (.int .u8 x.a4.f5)),(iP x.a4.f6),(iP x.a4.f7),(iP x.a4.f9),(iP x.a4.faa),(iP x.a4.fab),(sP x.a5.fM),(.sc (.int .u8 x.a5.f5)),(iP x.a5.f6),(iP x.a5.f7),(iP x.a5.f9),(iP x.a5.faa),(iP x.a5.fab),(sP x.a6.fM),(.sc (.int .u8 x.a6.f5)),(iP x.a6.f6),(iP x.a6.f7),(iP x.a6.f9),(iP x.a6.faa),(iP x.a6.fab),(sP x.a7.fM),(.sc (.int .u8 x.a7.f5)),(iP x.a7.f6),(iP x.a7.f7),(iP x.a7.f9),(iP x.a7.faa),(iP x.a7.fab),(sP x.a8.fM),(.sc (.int .u8 x.a8.f5)),(iP x.a8.f6),(iP x.a8.f7),(iP x.a8.f9),(iP x.a8.faa),(iP x.a8.fab)]
theorem cl242 (x:G242):Cls (c242 x):=by unfold c242;exact ClL.h
instance:ClsC c242:=⟨cl242⟩
instance {x:G242}:ClL (c242 x):=⟨cl242 x⟩
structure G249 where
 a0:Int
 a1:Int
 a2:Int
 a3:Int
 a4:Int
 a5:Int
 a6:Int
instance:Inhabited G249:=⟨⟨default,default,default,default,default,default,default⟩⟩
def c249 (x:G249):List PV:=[(iP x.a0),(iP x.a1),(iP x.a2),(iP x.a3),(iP x.a4),(iP x.a5),(iP x.a6)]
theorem cl249 (x:G249):Cls (c249 x):=by unfold c249;exact ClL.h
instance:ClsC c249:=⟨cl249⟩
instance {x:G249}:ClL (c249 x):=⟨cl249 x⟩
structure G193 where
 fC:Int
 fAt:Int
 fD:Int
 fA:Int
instance:Inhabited G193:=⟨⟨default,default,default,default⟩⟩
def c193 (x:G193):List PV:=[(iP x.fC),(iP x.fAt),(iP x.fD),(iP x.fA)]
theorem cl193 (x:G193):Cls (c193 x):=by unfold c193;exact ClL.h
instance:ClsC c193:=⟨cl193⟩
instance {x:G193}:ClL (c193 x):=⟨cl193 x⟩
structure G195 where
 fo:Int
 fK:G193
 fTo:G193
instance:Inhabited G195:=⟨⟨default,default,default⟩⟩
def c195 (x:G195):List PV:=[(iP x.fo),(iP x.fK.fC),(iP x.fK.fAt),(iP x.fK.fD),(iP x.fK.fA),(iP x.fTo.fC),(iP x.fTo.fAt),(iP x.fTo.fD),(iP x.fTo.fA)]
theorem cl195 (x:G195):Cls (c195 x):=by unfold c195;exact ClL.h
instance:ClsC c195:=⟨cl195⟩
instance {x:G195}:ClL (c195 x):=⟨cl195 x⟩
structure G197 where
 fL:Bool
 fI:Int
 fF:Int
 fZ:Int
 faf:Bool
 ft:Int
instance:Inhabited G197:=⟨⟨default,default,default,default,default,default⟩⟩
def c197 (x:G197):List PV:=[(bP x.fL),(iP x.fI),(iP x.fF),(iP x.fZ),(bP x.faf),(iP x.ft)]
theorem cl197 (x:G197):Cls (c197 x):=by unfold c197;exact ClL.h
instance:ClsC c197:=⟨cl197⟩
instance {x:G197}:ClL (c197 x):=⟨cl197 x⟩
structure G138 where
 fs:G27
 faH:Int
 faI:(Sl G35)
instance:Inhabited G138:=⟨⟨default,default,default⟩⟩
def c138 (x:G138):List PV:=[(sP x.fs.fap),(bP x.fs.faw),(eS 6 c89 x.fs.fh),(eS 22 c64 x.fs.fc),(eS 7 c126 x.fs.fj),(eS 2 c33 x.fs.fG),(iP x.faH),(eS 3 c35 x.faI)]
theorem cl138 (x:G138):Cls (c138 x):=by unfold c138;exact ClL.h
instance:ClsC c138:=⟨cl138⟩
instance {x:G138}:ClL (c138 x):=⟨cl138 x⟩
abbrev hC (s:G27) (r:Int) (l:List G35):List Blk:=[.cells (c27 s++[iP r,oP 1 3 c35 l]),.grow (List.length l) 3]
end
end Go.Proofs.YtnjmaohblihppaaGreatDoor
