/- A part of the proof. -/
import Derived.Test.YtnjmaohblihppaaGreatDoorSY8
set_option linter.all false
set_option maxRecDepth 100000
set_option maxHeartbeats 40000000
namespace Go.Proofs.YtnjmaohblihppaaGreatDoor
open Go.PE
noncomputable section
structure G33ID where
 fSite:Int
 fNumber:Int
instance:Inhabited G33ID:=⟨⟨default,default⟩⟩
def c33 (x:G33ID):List PV:=[(iP x.fSite),(iP x.fNumber)]
theorem cl33 (x:G33ID):Cls (c33 x):=by unfold c33;exact ClL.h
instance:ClsC c33:=⟨cl33⟩
instance {x:G33ID}:ClL (c33 x):=⟨cl33 x⟩
def kv33 (x:G33ID):Value:=.agg #[.int .i64 x.fSite,.int .i64 x.fNumber]
def keq33 (a b:G33ID):Bool:=(a.fSite==b.fSite&&(a.fNumber==b.fNumber&&true))
structure G35Violation where
 fRule:Int
 fObject:G33ID
instance:Inhabited G35Violation:=⟨⟨default,default⟩⟩
def c35 (x:G35Violation):List PV:=[(iP x.fRule),(iP x.fObject.fSite),(iP x.fObject.fNumber)]
theorem cl35 (x:G35Violation):Cls (c35 x):=by unfold c35;exact ClL.h
instance:ClsC c35:=⟨cl35⟩
instance {x:G35Violation}:ClL (c35 x):=⟨cl35 x⟩
structure G257Tuplet where
 fFirst:Int
 fCount:Int
 fActual:Int
 fNormal:Int
instance:Inhabited G257Tuplet:=⟨⟨default,default,default,default⟩⟩
def c257 (x:G257Tuplet):List PV:=[(iP x.fFirst),(iP x.fCount),(iP x.fActual),(iP x.fNormal)]
theorem cl257 (x:G257Tuplet):Cls (c257 x):=by unfold c257;exact ClL.h
instance:ClsC c257:=⟨cl257⟩
instance {x:G257Tuplet}:ClL (c257 x):=⟨cl257 x⟩
structure G86Interval where
 fSteps:Int
 fSemitones:Int
instance:Inhabited G86Interval:=⟨⟨default,default⟩⟩
def c86 (x:G86Interval):List PV:=[(iP x.fSteps),(iP x.fSemitones)]
theorem cl86 (x:G86Interval):Cls (c86 x):=by unfold c86;exact ClL.h
instance:ClsC c86:=⟨cl86⟩
instance {x:G86Interval}:ClL (c86 x):=⟨cl86 x⟩
structure G84Staff where
 fID:G33ID
 fClef:Int
instance:Inhabited G84Staff:=⟨⟨default,default⟩⟩
def c84 (x:G84Staff):List PV:=[(iP x.fID.fSite),(iP x.fID.fNumber),(iP x.fClef)]
theorem cl84 (x:G84Staff):Cls (c84 x):=by unfold c84;exact ClL.h
instance:ClsC c84:=⟨cl84⟩
instance {x:G84Staff}:ClL (c84 x):=⟨cl84 x⟩
structure G89Part where
 fID:G33ID
 fName:ByteArray
 fTranspose:G86Interval
 fStaves:(Sl G84Staff)
instance:Inhabited G89Part:=⟨⟨default,default,default,default⟩⟩
def c89 (x:G89Part):List PV:=[(iP x.fID.fSite),(iP x.fID.fNumber),(sP x.fName),(iP x.fTranspose.fSteps),(iP x.fTranspose.fSemitones),(eS 3 c84 x.fStaves)]
theorem cl89 (x:G89Part):Cls (c89 x):=by unfold c89;exact ClL.h
instance:ClsC c89:=⟨cl89⟩
instance {x:G89Part}:ClL (c89 x):=⟨cl89 x⟩
structure G58 where
 a0:Int
 a1:Int
 a2:Int
 a3:Int
 a4:Int
 a5:Int
instance:Inhabited G58:=⟨⟨default,default,default,default,default,default⟩⟩
def c58 (x:G58):List PV:=[(iP x.a0),(iP x.a1),(iP x.a2),(iP x.a3),(iP x.a4),(iP x.a5)]
theorem cl58 (x:G58):Cls (c58 x):=by unfold c58;exact ClL.h
instance:ClsC c58:=⟨cl58⟩
instance {x:G58}:ClL (c58 x):=⟨cl58 x⟩
structure G60Metre where
 fCount:Int
 fUnit:Int
 fGroups:G58
instance:Inhabited G60Metre:=⟨⟨default,default,default⟩⟩
def c60 (x:G60Metre):List PV:=[(iP x.fCount),(iP x.fUnit),(iP x.fGroups.a0),(iP x.fGroups.a1),(iP x.fGroups.a2),(iP x.fGroups.a3),(iP x.fGroups.a4),(iP x.fGroups.a5)]
theorem cl60 (x:G60Metre):Cls (c60 x):=by unfold c60;exact ClL.h
instance:ClsC c60:=⟨cl60⟩
instance {x:G60Metre}:ClL (c60 x):=⟨cl60 x⟩
def kv60 (x:G60Metre):Value:=.agg #[.int .i64 x.fCount,.int .i64 x.fUnit,.int .i64 x.fGroups.a0,.int .i64 x.fGroups.a1,.int .i64 x.fGroups.a2,.int .i64 x.fGroups.a3,.int .i64 x.fGroups.a4,.int .i64 x.fGroups.a5]
structure G161TempoMark where
 fAt:Int
 fMicros:Int
 fRamp:Bool
instance:Inhabited G161TempoMark:=⟨⟨default,default,default⟩⟩
def c161 (x:G161TempoMark):List PV:=[(iP x.fAt),(iP x.fMicros),(bP x.fRamp)]
theorem cl161 (x:G161TempoMark):Cls (c161 x):=by unfold c161;exact ClL.h
instance:ClsC c161:=⟨cl161⟩
instance {x:G161TempoMark}:ClL (c161 x):=⟨cl161 x⟩
structure G174ClefChange where
 fAt:Int
 fClef:Int
instance:Inhabited G174ClefChange:=⟨⟨default,default⟩⟩
def c174 (x:G174ClefChange):List PV:=[(iP x.fAt),(iP x.fClef)]
theorem cl174 (x:G174ClefChange):Cls (c174 x):=by unfold c174;exact ClL.h
instance:ClsC c174:=⟨cl174⟩
instance {x:G174ClefChange}:ClL (c174 x):=⟨cl174 x⟩
structure G44Value where
 fLog:Int
 fDots:Int
instance:Inhabited G44Value:=⟨⟨default,default⟩⟩
def c44 (x:G44Value):List PV:=[(iP x.fLog),(iP x.fDots)]
theorem cl44 (x:G44Value):Cls (c44 x):=by unfold c44;exact ClL.h
instance:ClsC c44:=⟨cl44⟩
instance {x:G44Value}:ClL (c44 x):=⟨cl44 x⟩
structure G110Pitch where
 fStep:Int
 fAlter:Int
 fOctave:Int
instance:Inhabited G110Pitch:=⟨⟨default,default,default⟩⟩
def c110 (x:G110Pitch):List PV:=[(iP x.fStep),(iP x.fAlter),(iP x.fOctave)]
theorem cl110 (x:G110Pitch):Cls (c110 x):=by unfold c110;exact ClL.h
instance:ClsC c110:=⟨cl110⟩
instance {x:G110Pitch}:ClL (c110 x):=⟨cl110 x⟩
structure G112Head where
 fPitch:G110Pitch
 fTied:Bool
 fShow:Int
instance:Inhabited G112Head:=⟨⟨default,default,default⟩⟩
def c112 (x:G112Head):List PV:=[(iP x.fPitch.fStep),(iP x.fPitch.fAlter),(iP x.fPitch.fOctave),(bP x.fTied),(iP x.fShow)]
theorem cl112 (x:G112Head):Cls (c112 x):=by unfold c112;exact ClL.h
instance:ClsC c112:=⟨cl112⟩
instance {x:G112Head}:ClL (c112 x):=⟨cl112 x⟩
structure G144Grace where
 fPitch:G110Pitch
 fLog:Int
 fSlash:Bool
instance:Inhabited G144Grace:=⟨⟨default,default,default⟩⟩
def c144 (x:G144Grace):List PV:=[(iP x.fPitch.fStep),(iP x.fPitch.fAlter),(iP x.fPitch.fOctave),(iP x.fLog),(bP x.fSlash)]
theorem cl144 (x:G144Grace):Cls (c144 x):=by unfold c144;exact ClL.h
instance:ClsC c144:=⟨cl144⟩
instance {x:G144Grace}:ClL (c144 x):=⟨cl144 x⟩
structure G135Syllable where
 fText:ByteArray
 fLink:Int
instance:Inhabited G135Syllable:=⟨⟨default,default⟩⟩
def c135 (x:G135Syllable):List PV:=[(sP x.fText),(iP x.fLink)]
theorem cl135 (x:G135Syllable):Cls (c135 x):=by unfold c135;exact ClL.h
instance:ClsC c135:=⟨cl135⟩
instance {x:G135Syllable}:ClL (c135 x):=⟨cl135 x⟩
structure G49Event where
 fID:G33ID
 fKind:Int
 fValue:G44Value
 fHeads:(Sl G112Head)
 fGraces:(Sl G144Grace)
 fArticulations:Int
 fOrnament:Int
 fDynamic:Int
 fLyrics:(Sl G135Syllable)
 fStem:Int
 fBeam:Int
instance:Inhabited G49Event:=⟨⟨default,default,default,default,default,default,default,default,default,default,default⟩⟩
def c49 (x:G49Event):List PV:=[(iP x.fID.fSite),(iP x.fID.fNumber),(iP x.fKind),(iP x.fValue.fLog),(iP x.fValue.fDots),(eS 5 c112 x.fHeads),(eS 5 c144 x.fGraces),(iP x.fArticulations),(iP x.fOrnament),(iP x.fDynamic),(eS 2 c135 x.fLyrics),(iP x.fStem),(iP x.fBeam)]
theorem cl49 (x:G49Event):Cls (c49 x):=by unfold c49;exact ClL.h
instance:ClsC c49:=⟨cl49⟩
instance {x:G49Event}:ClL (c49 x):=⟨cl49 x⟩
structure G73Voice where
 fEvents:(Sl G49Event)
 fTuplets:(Sl G257Tuplet)
instance:Inhabited G73Voice:=⟨⟨default,default⟩⟩
def c73 (x:G73Voice):List PV:=[(eS 13 c49 x.fEvents),(eS 4 c257 x.fTuplets)]
theorem cl73 (x:G73Voice):Cls (c73 x):=by unfold c73;exact ClL.h
instance:ClsC c73:=⟨cl73⟩
instance {x:G73Voice}:ClL (c73 x):=⟨cl73 x⟩
structure G69Cell where
 fClefs:(Sl G174ClefChange)
 fVoices:(Sl G73Voice)
instance:Inhabited G69Cell:=⟨⟨default,default⟩⟩
def c69 (x:G69Cell):List PV:=[(eS 2 c174 x.fClefs),(eS 2 c73 x.fVoices)]
theorem cl69 (x:G69Cell):Cls (c69 x):=by unfold c69;exact ClL.h
instance:ClsC c69:=⟨cl69⟩
instance {x:G69Cell}:ClL (c69 x):=⟨cl69 x⟩
structure G64Measure where
 fID:G33ID
 fMetre:G60Metre
 fLength:Int
 fFifths:Int
 fRepeatStart:Bool
 fRepeatEnd:Int
 fEndings:Int
 fJump:Int
 fLabels:Int
 fSwing:Int
 fBreak:Int
 fRehearsal:ByteArray
 fTempi:(Sl G161TempoMark)
 fCells:(Sl G69Cell)
instance:Inhabited G64Measure:=⟨⟨default,default,default,default,default,default,default,default,default,default,default,default,default,default⟩⟩
def c64 (x:G64Measure):List PV:=[(iP x.fID.fSite),(iP x.fID.fNumber),(iP x.fMetre.fCount),(iP x.fMetre.fUnit),(iP x.fMetre.fGroups.a0),(iP x.fMetre.fGroups.a1),(iP x.fMetre.fGroups.a2),(iP x.fMetre.fGroups.a3),(iP x.fMetre.fGroups.a4),(iP x.fMetre.fGroups.a5),(iP x.fLength),(iP x.fFifths),(bP x.fRepeatStart),(iP x.fRepeatEnd),(iP x.fEndings),(iP x.fJump),(iP x.fLabels),(iP x.fSwing),(iP x.fBreak),(sP x.fRehearsal),(eS 3 c161 x.fTempi),(eS 2 c69 x.fCells)]
theorem cl64 (x:G64Measure):Cls (c64 x):=by unfold c64;exact ClL.h
instance:ClsC c64:=⟨cl64⟩
instance {x:G64Measure}:ClL (c64 x):=⟨cl64 x⟩
structure G126Spanner where
 fID:G33ID
 fKind:Int
 fFrom:G33ID
 fTo:G33ID
instance:Inhabited G126Spanner:=⟨⟨default,default,default,default⟩⟩
def c126 (x:G126Spanner):List PV:=[(iP x.fID.fSite),(iP x.fID.fNumber),(iP x.fKind),(iP x.fFrom.fSite),(iP x.fFrom.fNumber),(iP x.fTo.fSite),(iP x.fTo.fNumber)]
theorem cl126 (x:G126Spanner):Cls (c126 x):=by unfold c126;exact ClL.h
instance:ClsC c126:=⟨cl126⟩
instance {x:G126Spanner}:ClL (c126 x):=⟨cl126 x⟩
structure G27Score where
 fTitle:ByteArray
 fWritten:Bool
 fParts:(Sl G89Part)
 fMeasures:(Sl G64Measure)
 fSpanners:(Sl G126Spanner)
 fLast:(Sl G33ID)
instance:Inhabited G27Score:=⟨⟨default,default,default,default,default,default⟩⟩
def c27 (x:G27Score):List PV:=[(sP x.fTitle),(bP x.fWritten),(eS 6 c89 x.fParts),(eS 22 c64 x.fMeasures),(eS 7 c126 x.fSpanners),(eS 2 c33 x.fLast)]
theorem cl27 (x:G27Score):Cls (c27 x):=by unfold c27;exact ClL.h
instance:ClsC c27:=⟨cl27⟩
instance {x:G27Score}:ClL (c27 x):=⟨cl27 x⟩
structure G39Place where
 fKind:Int
 fPart:Int
 fStaff:Int
 fMeasure:Int
 fVoice:Int
 fEvent:Int
 fSpanner:Int
instance:Inhabited G39Place:=⟨⟨default,default,default,default,default,default,default⟩⟩
def c39 (x:G39Place):List PV:=[(iP x.fKind),(iP x.fPart),(iP x.fStaff),(iP x.fMeasure),(iP x.fVoice),(iP x.fEvent),(iP x.fSpanner)]
theorem cl39 (x:G39Place):Cls (c39 x):=by unfold c39;exact ClL.h
instance:ClsC c39:=⟨cl39⟩
instance {x:G39Place}:ClL (c39 x):=⟨cl39 x⟩
def kv39 (x:G39Place):Value:=.agg #[.int .i64 x.fKind,.int .i64 x.fPart,.int .i64 x.fStaff,.int .i64 x.fMeasure,.int .i64 x.fVoice,.int .i64 x.fEvent,.int .i64 x.fSpanner]
def keq39 (a b:G39Place):Bool:=(a.fKind==b.fKind&&(a.fPart==b.fPart&&(a.fStaff==b.fStaff&&(a.fMeasure==b.fMeasure&&(a.fVoice==b.fVoice&&(a.fEvent==b.fEvent&&(a.fSpanner==b.fSpanner&&true)))))))
structure G212kind where
 fname:ByteArray
 fletter:Int
 fline:Int
 foctaves:Int
 fmiddle:Int
 fsharps:Int
 fflats:Int
instance:Inhabited G212kind:=⟨⟨default,default,default,default,default,default,default⟩⟩
def c212 (x:G212kind):List PV:=[(sP x.fname),(.sc (.int .u8 x.fletter)),(iP x.fline),(iP x.foctaves),(iP x.fmiddle),(iP x.fsharps),(iP x.fflats)]
theorem cl212 (x:G212kind):Cls (c212 x):=by unfold c212;exact ClL.h
instance:ClsC c212:=⟨cl212⟩
instance {x:G212kind}:ClL (c212 x):=⟨cl212 x⟩
structure G242 where
 a0:G212kind
 a1:G212kind
 a2:G212kind
 a3:G212kind
 a4:G212kind
 a5:G212kind
 a6:G212kind
 a7:G212kind
 a8:G212kind
instance:Inhabited G242:=⟨⟨default,default,default,default,default,default,default,default,default⟩⟩
def c242 (x:G242):List PV:=[(sP x.a0.fname),(.sc (.int .u8 x.a0.fletter)),(iP x.a0.fline),(iP x.a0.foctaves),(iP x.a0.fmiddle),(iP x.a0.fsharps),(iP x.a0.fflats),(sP x.a1.fname),(.sc (.int .u8 x.a1.fletter)),(iP x.a1.fline),(iP x.a1.foctaves),(iP x.a1.fmiddle),(iP x.a1.fsharps),(iP x.a1.fflats),(sP x.a2.fname),(.sc (.int .u8 x.a2.fletter)),(iP x.a2.fline),(iP x.a2.foctaves),(iP x.a2.fmiddle),(iP x.a2.fsharps),(iP x.a2.fflats),(sP x.a3.fname),(.sc (.int .u8 x.a3.fletter)),(iP x.a3.fline),(iP x.a3.foctaves),(iP x.a3.fmiddle),(iP x.a3.fsharps),(iP x.a3.fflats),(sP x.a4.fname),(.sc (.int .u8 x.a4.fletter)),(iP x.a4.fline),(iP x.a4.foctaves),(iP x.a4.fmiddle),(iP x.a4.fsharps),(iP x.a4.fflats),(sP x.a5.fname),(.sc (.int .u8 x.a5.fletter)),(iP x.a5.fline),(iP x.a5.foctaves),(iP x.a5.fmiddle),(iP x.a5.fsharps),(iP x.a5.fflats),(sP x.a6.fname),(.sc (.int .u8 x.a6.fletter)),(iP x.a6.fline),(iP x.a6.foctaves),(iP x.a6.fmiddle),(iP x.a6.fsharps),(iP x.a6.fflats),(sP x.a7.fname),(.sc (.int .u8 x.a7.fletter)),(iP x.a7.fline),(iP x.a7.foctaves),(iP x.a7.fmiddle),(iP x.a7.fsharps),(iP x.a7.fflats),(sP x.a8.fname),(.sc (.int .u8 x.a8.fletter)),(iP x.a8.fline),(iP x.a8.foctaves),(iP x.a8.fmiddle),(iP x.a8.fsharps),(iP x.a8.fflats)]
theorem cl242 (x:G242):Cls (c242 x):=by unfold c242;exact ClL.h
instance:ClsC c242:=⟨cl242⟩
instance {x:G242}:ClL (c242 x):=⟨cl242 x⟩
structure G249 where
 a0:Int
 a1:Int
 a2:Int
 a3:Int
 a4:Int
 a5:Int
 a6:Int
instance:Inhabited G249:=⟨⟨default,default,default,default,default,default,default⟩⟩
def c249 (x:G249):List PV:=[(iP x.a0),(iP x.a1),(iP x.a2),(iP x.a3),(iP x.a4),(iP x.a5),(iP x.a6)]
theorem cl249 (x:G249):Cls (c249 x):=by unfold c249;exact ClL.h
instance:ClsC c249:=⟨cl249⟩
instance {x:G249}:ClL (c249 x):=⟨cl249 x⟩
structure G193Place where
 fMeasure:Int
 fAt:Int
 fStaff:Int
 fVoice:Int
instance:Inhabited G193Place:=⟨⟨default,default,default,default⟩⟩
def c193 (x:G193Place):List PV:=[(iP x.fMeasure),(iP x.fAt),(iP x.fStaff),(iP x.fVoice)]
theorem cl193 (x:G193Place):Cls (c193 x):=by unfold c193;exact ClL.h
instance:ClsC c193:=⟨cl193⟩
instance {x:G193Place}:ClL (c193 x):=⟨cl193 x⟩
structure G195Span where
 fKind:Int
 fFrom:G193Place
 fTo:G193Place
instance:Inhabited G195Span:=⟨⟨default,default,default⟩⟩
def c195 (x:G195Span):List PV:=[(iP x.fKind),(iP x.fFrom.fMeasure),(iP x.fFrom.fAt),(iP x.fFrom.fStaff),(iP x.fFrom.fVoice),(iP x.fTo.fMeasure),(iP x.fTo.fAt),(iP x.fTo.fStaff),(iP x.fTo.fVoice)]
theorem cl195 (x:G195Span):Cls (c195 x):=by unfold c195;exact ClL.h
instance:ClsC c195:=⟨cl195⟩
instance {x:G195Span}:ClL (c195 x):=⟨cl195 x⟩
structure G197group where
 fstarted:Bool
 fbody:Int
 fused:Int
 fending:Int
 fended:Bool
 fpasses:Int
instance:Inhabited G197group:=⟨⟨default,default,default,default,default,default⟩⟩
def c197 (x:G197group):List PV:=[(bP x.fstarted),(iP x.fbody),(iP x.fused),(iP x.fending),(bP x.fended),(iP x.fpasses)]
theorem cl197 (x:G197group):Cls (c197 x):=by unfold c197;exact ClL.h
instance:ClsC c197:=⟨cl197⟩
instance {x:G197group}:ClL (c197 x):=⟨cl197 x⟩
structure G138checker where
 fs:G27Score
 frule:Int
 flist:(Sl G35Violation)
instance:Inhabited G138checker:=⟨⟨default,default,default⟩⟩
def c138 (x:G138checker):List PV:=[(sP x.fs.fTitle),(bP x.fs.fWritten),(eS 6 c89 x.fs.fParts),(eS 22 c64 x.fs.fMeasures),(eS 7 c126 x.fs.fSpanners),(eS 2 c33 x.fs.fLast),(iP x.frule),(eS 3 c35 x.flist)]
theorem cl138 (x:G138checker):Cls (c138 x):=by unfold c138;exact ClL.h
instance:ClsC c138:=⟨cl138⟩
instance {x:G138checker}:ClL (c138 x):=⟨cl138 x⟩
abbrev hC (s:G27Score) (r:Int) (l:List G35Violation):List Blk:=[.cells (c27 s++[iP r,oP 1 3 c35 l]),.grow (List.length l) 3]
end
end Go.Proofs.YtnjmaohblihppaaGreatDoor
