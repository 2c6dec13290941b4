/- Packed. -/
import Derived.Test.YtbcmabolkkfgfaaGreatDoorQ15
set_option maxRecDepth 100000
set_option maxHeartbeats 8000000
open Go.Value renaming int → I
open Go.IntKind renaming i64 → O
namespace Go.Proofs.YtbcmabolkkfgfaaGreatDoor
open Go.RowKit
def noB (x:Nat):Bool:=decide (x<33)||(decide (126<x)||decide (x=35))
theorem noB_high (x:Nat)(h:128≤x):noB x=true:=by
 simp only[noB,Bool.or_eq_true,decide_eq_true_eq];omega
theorem noB_okB (c:UInt8):noB c.toNat = !okB c:=by
 have e:(c==35)=decide (c.toNat=35):=by
  rw[Bool.eq_iff_iff,beq_iff_eq,decide_eq_true_eq]
  constructor
  ·rintro rfl;rfl
  ·intro h;exact UInt8.toNat_inj.1 (by rw[h];rfl)
 rw[Bool.eq_iff_iff];simp only[noB,okB,e,Bool.or_eq_true,Bool.not_eq_true', Bool.and_eq_false_iff,Bool.not_eq_false', decide_eq_true_eq,decide_eq_false_iff_not];omega
theorem word_eq (s:ByteArray)(h:¬s.toList = []):(!(decide (0≤Lib.idxFunc noB true s)))=Wo.wordB s.data.toList:=by
 rw[Wo.contains_any noB noB_high s,wordB_eq];have e:(!s.data.toList.isEmpty)=true:=by
  rw[ByteArray.toList_eq]at h
  cases h2:s.data.toList with
  | nil=>exact absurd h2 h
  | cons a b=>rfl
 rw[e,Bool.true_and];have:(fun c:UInt8=>noB c.toNat)=fun c => !okB c:=funext noB_okB
 rw[this,List.all_eq_not_any_not]
theorem word1_any (x:Nat)(W:World):Calls Tryz.prog 96 #[.int .i32 (x:Int)] W fun e w' => e = .returned (.bool (noB x))∧W=w' :=by
 have hx0:(0:Int)≤(x:Int):=inn _
 by_cases h1:x<33
 ·have HN:=mh (show noB x=true by simp only[noB,Bool.or_eq_true,decide_eq_true_eq];omega)
  have h1' : (x:Int)<33:=by omega
  clear h1
  go_enter Tryz.func96,Tryz.ntmps96
  go_wp2
  go_ret
  exact⟨ret_b HN.out.symm,rfl⟩
 have g1:¬(x:Int)<33:=by omega
 by_cases h2:126<x
 ·have HN:=mh (show noB x=true by simp only[noB,Bool.or_eq_true,decide_eq_true_eq];omega)
  have h2' : (126:Int)<(x:Int):=by omega
  clear h1 h2
  go_enter Tryz.func96,Tryz.ntmps96
  go_wp2
  go_ret
  exact⟨ret_b HN.out.symm,rfl⟩
 have g2:¬(126:Int)<(x:Int):=by omega
 by_cases h3:x=35
 ·have HN:=mh (show noB x=true by simp only[noB,Bool.or_eq_true,decide_eq_true_eq];omega)
  have h3' : ((x:Int)==35)=true:=by rw[h3];rfl
  clear h1 h2 h3
  go_enter Tryz.func96,Tryz.ntmps96
  go_wp2
  go_ret
  exact⟨ret_b HN.out.symm,rfl⟩
 ·have HN:=mh (show noB x=false by simp only[noB,Bool.or_eq_false_iff,decide_eq_false_iff_not];omega)
  have h3' : ((x:Int)==35)=false:=beq_eq_false_iff_ne.2 (by omega);clear h1 h2 h3
  go_enter Tryz.func96,Tryz.ntmps96
  go_wp2
  go_ret
  exact⟨ret_b HN.out.symm,rfl⟩
def WdGive (b:Bool) (w:World) (e:Ending) (w' : World):Prop:=e = .returned (.bool b)∧Below w.heap.size w w'
theorem enters_word1:∀args w,(callFunc 96 args).run Tryz.prog w = .ok (.enter 96 args) w:=enters_of Tryz.func96 (by kernel_rfl) rfl
theorem word_any (s:ByteArray)(w:World):Calls Tryz.prog 59 #[.string s] w (WdGive (Wo.wordB s.data.toList) w):=by
 have CF:=mh (Tryz.strings_ContainsFunc_runes 96 #[] enters_word1 noB s w (fun W x _ _=>(word1_any x W).mono fun _ _ ⟨he,hw⟩=>⟨he,0,hw.symm⟩))
 by_cases h:s.toList = []
 ·have HN:=mh (show Wo.wordB s.data.toList=false by rw[wordB_eq];rw[ByteArray.toList_eq]at h;rw[h];rfl)
  go_enter Tryz.func59,Tryz.ntmps59
  go_wp2
  go_ret
  exact⟨ret_b HN.out.symm,brf _ _⟩
 ·have h2:s.toList.isEmpty=false:=by cases h3:s.toList with|nil=>exact absurd h3 h|cons a b=>rfl
  have HN:=mh (word_eq s h);generalize decide (0≤Lib.idxFunc noB true s)=bb at *
  go_enter Tryz.func59,Tryz.ntmps59
  go_wp2_with (first|(go_at_call 69;refine cmo CF.out ?_;rintro e w1 ⟨rfl,hb⟩))
  go_ret
  exact⟨ret_b HN.out,hb⟩
theorem notword_any (s:ByteArray)(w:World):Calls Tryz.prog 58 #[.string s] w (WdGive (!Wo.wordB s.data.toList) w):=by
 have HW:=mh (word_any s w);generalize Wo.wordB s.data.toList=bb at *
 go_enter Tryz.func58,Tryz.ntmps58
 go_wp2_with (first|(go_at_call 59;refine cmo HW.out ?_;rintro e w1 ⟨rfl,hb⟩))
 go_ret
 exact⟨rfl,hb⟩
def badB (y:ByteArray):Bool := !Wo.wordB y.data.toList
def IxGive (ws:List ByteArray) (w:World) (e:Ending) (w' : World):Prop:=∃r:Int,e = .returned (I O r)∧decide (0≤r)=ws.any badB ∧ -1≤r∧Below w.heap.size w w'
theorem enters_bad:∀args w,(callFunc 58 args).run Tryz.prog w = .ok (.enter 58 args) w:=enters_of Tryz.func58 (by kernel_rfl) rfl
theorem indexbad_any (q:Option Addr)(ws:List ByteArray)(c:Nat)(w:World)(h:Recs SB w q ws) :
  Calls Tryz.prog 95 #[.slice q ws.length c,.func (.func 58) #[] #[]] w (IxGive ws w):=by
 have hl:=h.len;have HR:=mh h;have en:=enters_bad;clear h
 go_enter Tryz.func95,Tryz.ntmps95
 go_wp2
 go_loopw [8] (fun i wr=>∃k:Nat,k≤ws.length∧i=I O k∧(ws.take k).any badB=false∧Below w.heap.size w wr) (fun i _=>ws.length - (intOf i).toNat)
 case atStart=>exact⟨0,Nat.zero_le _,rfl,rfl,brf _ _⟩
 case round =>
  obtain⟨wo,rfl⟩:∃wo:World,wo=wr:=⟨_,rfl⟩;obtain⟨k,hk,rfl,ha,hb⟩:=hrel;have HA:=mh ha;have HB:=mh hb;have hk0:(0:Int)≤(k:Int):=inn _
  by_cases hlt:k<ws.length
  ·have hk1:(k:Int)<(ws.length:Int):=by omega
   obtain⟨b1,o1,rfl, -,hc1⟩:=(HR.out.below hb).word hlt
   have HS:=mh (show(ws.take (k+1)).any badB=badB ws[k] by
    rw[tsg hlt,List.any_append,HA.out,Bool.false_or];simp)
   have HM:=mh (show badB ws[k]=true→ws.any badB=true from fun e=>List.any_eq_true.2 ⟨ws[k],List.getElem_mem hlt,e⟩);obtain⟨y,ey⟩:∃y,ws[k]=y:=⟨_,rfl⟩;simp only[ey]at hc1 HS HM;clear ey ha hb;have CN:=mh (notword_any y wo);obtain⟨bb,ebb⟩:∃x,badB y=x:=⟨_,rfl⟩;have CN2:=mh (show Calls Tryz.prog 58 #[.string y] wo (WdGive bb wo) by rw[← ebb];exact CN.out);rw[ebb]at HS HM;clear CN ebb
   cases bb
   ·go_wp2_with (first|(go_at_call 58;refine cmo CN2.out ?_;rintro e w1 ⟨rfl,hb1⟩))
    go_roundw
    case rel=>exact⟨k+1,by omega,by go_num,HS.out,HB.out.trans (hb1.mono HB.out.size)⟩
    case measure=>simp[intOf];omega
   ·go_wp2_with (first|(go_at_call 58;refine cmo CN2.out ?_;rintro e w1 ⟨rfl,hb1⟩))
    go_ret
    exact⟨(k:Int),rfl,by rw[HM.out trivial];exact dqt hk0,by omega,HB.out.trans (hb1.mono HB.out.size)⟩
  ·obtain rfl:k=ws.length:=by omega
   rw[List.take_of_length_le mle]at ha;have HA2:=mh ha;clear ha
   go_wp2
   go_ret
   exact⟨-1,rfl,by rw[HA2.out];rfl,by omega,HB.out⟩
theorem containsbad_any (q:Option Addr)(ws:List ByteArray)(c:Nat)(w:World)(h:Recs SB w q ws) :
  Calls Tryz.prog 57 #[.slice q ws.length c,.func (.func 58) #[] #[]] w (WdGive (ws.any badB) w):=by
 have CI:=mh (indexbad_any q ws c w h);clear h
 go_enter Tryz.func57,Tryz.ntmps57
 go_wp2_with (first|(go_at_call 95;refine cmo CI.out ?_;rintro e w1 ⟨r,rfl,hr,hr1,hb⟩;have HR:=mh hr;clear hr))
 go_ret
 exact⟨ret_b HR.out,hb⟩
open Go.Shelf
def ren167:Go.Shelf.Ren:=⟨fun n=>if n=167 then 62 else Tryz.lays156_ren.f n,Tryz.lays156_ren.t,Tryz.lays156_ren.g⟩
theorem lays166:Go.Proofs.Lays.n166 Tryz.prog Tryz.lays156_ren:={ Tryz.lays156 with }
theorem lays167:Go.Proofs.Lays.n167 Tryz.prog ren167:={
 mixed:=by kernel_rfl
 f167:=Tryz.func62.trans (congrArg some (by kernel_rfl))
 f240:=Tryz.func97.trans (congrArg some (by kernel_rfl))
 f276:=Tryz.func121.trans (congrArg some (by kernel_rfl))
 t0:=Tryz.lays156.t0
 a0:=Tryz.lays156.a0
 z0:=Tryz.lays156.z0
 v0:=Tryz.lays156.v0
 t4:=Tryz.lays156.t4
 a4:=Tryz.lays156.a4
 z4:=Tryz.lays156.z4
 v4:=Tryz.lays156.v4
 t5:=Tryz.Builder_Extra_156.t5
 a5:=Tryz.Builder_Extra_156.a5
 z5:=Tryz.Builder_Extra_156.z5
 v5:=Tryz.Builder_Extra_156.v5
 t9:=Tryz.lays156.t9
 a9:=Tryz.lays156.a9
 z9:=Tryz.lays156.z9
 v9:=Tryz.lays156.v9
 t20:=Tryz.lays156.t20
 a20:=Tryz.lays156.a20
 z20:=Tryz.lays156.z20
 v20:=Tryz.lays156.v20
 t37:=Tryz.lays156.t37
 a37:=Tryz.lays156.a37
 z37:=Tryz.lays156.z37
 v37:=Tryz.lays156.v37
 t70:=Tryz.lays156.t70
 a70:=Tryz.lays156.a70
 z70:=Tryz.lays156.z70
 v70:=Tryz.lays156.v70
 t72:=Tryz.lays156.t72
 a72:=Tryz.lays156.a72
 z72:=Tryz.lays156.z72
 v72:=Tryz.lays156.v72
 t75:=Tryz.lays156.t75
 a75:=Tryz.lays156.a75
 z75:=Tryz.lays156.z75
 v75:=Tryz.lays156.v75
 t164:=Tryz.lays156.t164
 a164:=Tryz.lays156.a164
 z164:=Tryz.lays156.z164
 v164:=Tryz.lays156.v164 }
theorem extra167:Builder.Extra Tryz.prog ren167:={
 sizeBuilder:=by kernel_rfl
 liesBuilder:=by kernel_rfl
 t5:=Tryz.Builder_Extra_156.t5
 a5:=Tryz.Builder_Extra_156.a5
 z5:=Tryz.Builder_Extra_156.z5
 v5:=Tryz.Builder_Extra_156.v5
 infoByte:=by kernel_rfl
 cellsByte:=by kernel_rfl
 sizeByte:=by kernel_rfl
 neB5:=by decide }
theorem bwriteString (B b:Nat)(bs:List Value)(s:ByteArray)(w:World)(h:Lib.IsBuilderF 93 5 B b bs w)(hlen:bs.length+s.size≤140737488355328)(hBw:B≤w.heap.size) :
  Calls Tryz.prog 60 #[.pointer (some ⟨b,0,none⟩),.string s] w fun e w' => e = .returned (.tuple #[I O s.size,.nilIface])∧(Lib.BuilderAtF 93 5 B b (.pointer (some ⟨b,0,none⟩)) (bs++Lib.strCells s) w' ∧ Below B w w' ∧ Lib.OthersKept 5 (some b) w w') :=
 Any.Builder_WriteString_k lays166 Tryz.Builder_Extra_156 B b bs s w h hlen hBw
theorem bwriteByte (B b:Nat)(bs:List Value)(c:Int)(w:World)(h:Lib.IsBuilderF 93 5 B b bs w)(hlen:bs.length+1≤140737488355328)(hBw:B≤w.heap.size) :
  Calls Tryz.prog 62 #[.pointer (some ⟨b,0,none⟩),.int .u8 c] w fun e w' => e = .returned .nilIface∧(Lib.BuilderAtF 93 5 B b (.pointer (some ⟨b,0,none⟩)) (bs ++ [.int .u8 c]) w' ∧ Below B w w' ∧ Lib.OthersKept 5 (some b) w w') :=
 Any.Builder_WriteByte_k lays167 extra167 B b bs c w h hlen hBw
abbrev BdAt (B b:Nat) (l:List UInt8) (w:World):Prop:=Lib.IsBuilderF 93 5 B b (Lib.byteCells l) w
theorem grown_of_below {w w' : World}(h:Below w.heap.size w w'):w.grownBy w' none:=⟨h.os,h.tape,h.output,h.size,fun k hk _=>h.block k hk⟩
theorem bdAtF_below {T e:TypeId}{B b:Nat}{p:Value}{bs:List Value}{w w' : World}(h:Lib.BuilderAtF T e B b p bs w)(hb:Below w.heap.size w w'):Lib.BuilderAtF T e B b p bs w' :=by
 have hlt:=h.lt;obtain⟨hB,v,hc,hown,hne⟩:=h;exact⟨hB,v,(hb.block b hlt).trans hc,hown.kept (grown_of_below hb) (by cases hv:v.ownBlock<;>simp),hne⟩
theorem BdAt.below {B b:Nat}{l:List UInt8}{w w' : World}(h:BdAt B b l w)(hb:Below w.heap.size w w'):BdAt B b l w' :=
 h.elim (fun x => .inl (bdAtF_below x hb)) (fun x => .inr (bdAtF_below x hb))
theorem BdAt.new (w:World):BdAt w.heap.size w.heap.size [] (w.alloc (.cells #[.pointer none,.slice none 0 0] 93)) :=
 Lib.IsBuilderF.of (.inl ⟨Nat.le_refl _,.slice none 0 0,heap_alloc_new w _,World.ownsRow_nil _ _ _ _,by simp[Value.ownBlock]⟩)
theorem byteCells_app (l:List UInt8)(s:ByteArray):Lib.byteCells l++Lib.strCells s=Lib.byteCells (l++s.data.toList):=by
 unfold Lib.byteCells Lib.strCells;rw[List.map_append]
theorem byteCells_one (l:List UInt8):Lib.byteCells l ++ [.int .u8 10]=Lib.byteCells (l ++ [10]):=by
 unfold Lib.byteCells;rw[List.map_append];rfl
theorem byteCells_len (l:List UInt8):(Lib.byteCells l).length=l.length:=by unfold Lib.byteCells;rw[List.length_map]
theorem any_bad (ws:List ByteArray):ws.any badB = !((ws.map (·.data.toList)).all Wo.wordB):=by
 rw[List.all_eq_not_any_not,Bool.not_not,List.any_map]
 rfl
theorem join_any (LL:List (List ByteArray))(p:Option Addr)(c:Nat)(w:World)(h:LinesAt w p LL)(hT:(Wo.jText (lb LL)).length≤1099511627776)(hz:∀ws∈LL,ws.length≤1099511627776) :
  Calls Tryz.prog 34 #[.slice p LL.length c] w (JoinGive LL w):=by
 have HL:=mh h
 by_cases h4:400<LL.length
 ·have HF:=mh (join_bad (jErr_long h4) (by decide) w w (brf _ _))
  have h4' : (400:Int)<(LL.length:Int):=by omega
  clear h h4
  go_enter Tryz.func34,Tryz.ntmps34
  go_wp2
  go_ret2
  exact HF.out
 have g4:¬(400:Int)<(LL.length:Int):=by omega
 have H4:=mh (show LL.length≤400 by omega);have HT:=mh hT;have HZ:=mh hz;have B0:=mh (BdAt.new w);have BB0:=mh (show Below w.heap.size w (w.alloc (.cells #[.pointer none,.slice none 0 0] 93)) from(brf _ _).alloc mle _);clear h h4 hT hz
 go_enter Tryz.func34,Tryz.ntmps34
 go_wp2
 go_loopw [12] (fun i wr=>∃k:Nat,k≤LL.length∧i=I O k∧BdAt w.heap.size w.heap.size (Wo.jText (lb (LL.take k))) wr∧((lb (LL.take k)).all fun ws=>ws.all Wo.wordB)=true∧Below w.heap.size w wr) (fun i _=>LL.length - (intOf i).toNat)
 case atStart=>exact⟨0,Nat.zero_le _,rfl,B0.out,rfl,BB0.out⟩
 case round =>
  obtain⟨wo,rfl⟩:∃wo:World,wo=wr:=⟨_,rfl⟩;obtain⟨k,hk,rfl,hx,hall,hb⟩:=hrel;have HX:=mh hx;have HA:=mh hall;have HB:=mh hb;have hk0:(0:Int)≤(k:Int):=inn _
  by_cases hlt:k<LL.length
  ·have hk1:(k:Int)<(LL.length:Int):=by omega
   obtain⟨b1,o1,q1,n1,d1,rfl, -,hc1,rfl,hr1, -,hle⟩:=(HL.out.below hb).at hlt;have HS:=mh (lb_snoc LL k hlt);have hmem:=List.getElem_mem hlt;obtain⟨ws,ews⟩:∃y,LL[k]=y:=⟨_,rfl⟩;simp only[ews]at hc1 hr1 hle HS hmem;have hwn:=HZ.out ws hmem;have HR:=mh hr1;have HLE:=mh hle;have CB:=mh (containsbad_any q1 ws d1 wo hr1)
   by_cases hbad:ws.any badB=true
   ·obtain⟨y,hy,hyb⟩:=List.any_eq_true.1 hbad
    have he:=jErr_bad H4.out hmem hy (by unfold badB at hyb;simpa using hyb);rw[hbad]at CB;clear ews hx hall hb hmem hr1 hle hbad hy hyb
    go_wp2_with (first|(go_at_call 57;refine cmo CB.out ?_;rintro e w1 ⟨rfl,hb1⟩;have HF:=mh (join_bad he (by decide) w w1 (HB.out.trans (hb1.mono HB.out.size)));clear he))
    go_ret2
    exact HF.out
   ·have hgood:(ws.map (·.data.toList)).all Wo.wordB=true:=by
     rw[any_bad]at hbad;simpa using hbad
    rw[Bool.not_eq_true]at hbad;rw[hbad]at CB;clear ews hx hall hb hmem hr1 hle hbad;have hJ:(Wo.jText (lb (LL.take (k+1))))=Wo.jText (lb (LL.take k))++Lib.join (ws.map (·.data.toList)) [32] ++ [10]:=by rw[HS.out,Wo.jText_snoc,List.append_assoc]
    have hJl:(Wo.jText (lb (LL.take k))).length+(Lib.join (ws.map (·.data.toList)) [32]).length+1≤1099511627776:=by
     have h1:=congrArg List.length hJ;rw[lap,lap]at h1;have h2:=jText_take (lb LL) (k+1);rw[← lb_take]at h2;have h3:=HT.out;simp only[List.length_singleton]at h1;omega
    have HA2:=mh (show((lb (LL.take (k+1))).all fun ws=>ws.all Wo.wordB)=true by
     rw[HS.out,List.all_append,HA.out,Bool.true_and];simp only[List.all_cons,List.all_nil,Bool.and_true];exact hgood)
    have CJ:=mh (fun (W:World) (h:Recs SB W q1 ws)=>join32_any q1 ws d1 W h HLE.out (by omega) (by omega));unfold JnGive at CJ;have HJ:=mh hJ;clear hgood hJ;obtain⟨tx,etx⟩:∃y,Wo.jText (lb (LL.take k))=y:=⟨_,rfl⟩;obtain⟨jl,ejl⟩:∃y,Lib.join (ws.map (·.data.toList)) [32]=y:=⟨_,rfl⟩;rw[etx,ejl]at HJ hJl;rw[etx]at HX;rw[ejl]at CJ;clear etx ejl
    go_wp2_with (first|(go_at_call 57;refine cmo CB.out ?_;rintro e w1 ⟨rfl,hb1⟩)|(go_at_call 61;refine cmo (CJ.out _ (HR.out.below hb1)) ?_;rintro e w2 ⟨rfl,hb2⟩;have X2:=mh (BdAt.below (BdAt.below HX.out hb1) hb2);have B2:=mh (bst mle (bst mle HB.out hb1) hb2))|(go_at_call 60;refine cmo (bwriteString _ _ _ _ _ X2.out (by rw[byteCells_len];show _+jl.toArray.size≤_;simp;omega) B2.out.size) ?_;rintro e w3 ⟨rfl,hx3,hb3, -⟩;rw[byteCells_app]at hx3;have X3:=mh (show BdAt w.heap.size w.heap.size (tx++jl) w3 from .inr hx3);have B3:=mh (B2.out.trans hb3);clear hx3 hb3)|(go_at_call 62;refine cmo (bwriteByte _ _ _ _ _ X3.out (by rw[byteCells_len,lap];omega) B3.out.size) ?_;rintro e w4 ⟨rfl,hx4,hb4, -⟩;rw[byteCells_one]at hx4;have X4:=mh (show BdAt w.heap.size w.heap.size (tx++jl ++ [10]) w4 from .inr hx4);have B4:=mh (B3.out.trans hb4);clear hx4 hb4))
    go_roundw
    case rel=>exact⟨k+1,by omega,by go_num,by rw[HJ.out];exact X4.out,HA2.out,B4.out⟩
    case measure=>simp[intOf];omega
  ·obtain rfl:k=LL.length:=by omega
   rw[List.take_of_length_le mle]at hx hall;have CL:=mh (fun (W:World) (h:BdAt w.heap.size w.heap.size (Wo.jText (lb LL)) W)=>Tryz.Builder_Len_f _ _ _ W h);rw[byteCells_len]at CL
   by_cases hbig:16384<(Wo.jText (lb LL)).length
   ·have he:Wo.jErr (lb LL)=1:=by
     unfold Wo.jErr;rw[if_neg (by rw[lb_len];have:=H4.out;omega),if_neg (by rw[hall];simp),if_pos hbig]
    have HF:=mh (join_bad he (by decide) w wo HB.out);have HX3:=mh hx;clear hx hall hb he HX;obtain⟨tl,etl⟩:∃n:Nat,(Wo.jText (lb LL)).length=n:=⟨_,rfl⟩;rw[etl]at CL hbig;have hbig' : (16384:Int)<(tl:Int):=by omega
    clear etl hbig
    go_wp2_with (first|(go_at_call 63;refine cmo (CL.out _ HX3.out) ?_;rintro e w1 ⟨rfl,hw⟩;obtain rfl:=hw.symm))
    go_ret2
    exact HF.out
   ·have he:Wo.jErr (lb LL)=0:=by
     unfold Wo.jErr;rw[if_neg (by rw[lb_len];have:=H4.out;omega),if_neg (by rw[hall];simp),if_neg hbig]
    have HJO:=mh (show Wo.jOut (lb LL)=Wo.jText (lb LL) by unfold Wo.jOut;rw[if_pos he]);have HE:=mh he;have HX3:=mh hx;have CS:=mh (Tryz.Builder_String_any_k _ _ _ wo hx HB.out.size);clear hx hall hb he HX;obtain⟨tl,etl⟩:∃n:Nat,(Wo.jText (lb LL)).length=n:=⟨_,rfl⟩;rw[etl]at CL hbig;have hbig' : ¬(16384:Int)<(tl:Int):=by omega
    clear etl hbig
    go_wp2_with (first|(go_at_call 63;refine cmo (CL.out _ HX3.out) ?_;rintro e w1 ⟨rfl,hw⟩;obtain rfl:=hw.symm)|(go_at_call 64;refine cmo CS.out ?_;rintro e w2 ⟨rfl, -,hb2, -⟩))
    go_ret2
    exact⟨ret_si (by rw[HJO.out]) HE.out.symm,HB.out.trans hb2⟩
attribute [local go_sem] Oper.semAt_some
def strIn (W:World) (b:Nat):Nat:=strOf ((W.cell? ⟨b,0,none⟩).getD undef)
theorem strIn_eq {W:World}{b:Nat}{t:ByteArray}(h:W.cell? ⟨b,0,none⟩=some (.string t)):strIn W b=t.size:=by
 unfold strIn;rw[h];rfl
theorem lines1_in (n l b:Nat)(s:ByteArray)(hn:1≤n)(J:ByteArray→World→Prop)(hD:∀t W,J t W→J t W.drew)(hS:∀t W v,J t W→J t (W.setCell ⟨b,0,none⟩ v))
  (hL:∀t W,J t W→t.size≤16384∧(t.data.toList = []∨t.data.toList.getLast?=some 10))
  (hY:∀t o W,J t W→Lib.indexByte t.data.toList 10=((o:Nat):Int)→o<t.size→W.cell? ⟨b,0,none⟩=some (.string (t.extract (o+1) t.size))→W.frozen? ⟨b,0,none⟩=false →
   YieldAt Fence.wide (n - 1) Tryz.prog l #[.string (t.extract 0 (o+1))] W fun e W' => e = .returned (.bool true)∧J (t.extract (o+1) t.size) W' ∧ W'.cell? ⟨b,0,none⟩=some (.string (t.extract (o+1) t.size))∧W'.frozen? ⟨b,0,none⟩=false)
  (W:World) (hc:W.cell? ⟨b,0,none⟩=some (.string s)) (hf:W.frozen? ⟨b,0,none⟩=false) (h0:J s W) :
  CallsIn Fence.wide n Tryz.prog 103 #[.func (.yield l) #[] #[],.pointer (some ⟨b,0,none⟩)] W fun e W' => (∃v,e = .returned v)∧∃t,t.data.toList = []∧J t W' :=by
 refine callsIn_of_wp Tryz.func103 rfl trivial ?_ rfl
 simp only[Tryz.ntmps103,List.size_toArray,List.length_cons,List.length_nil,Nat.reduceAdd,Nat.reduceSub,Array.replicate_succ,Array.replicate_zero,List.push_toArray,List.append_toArray,List.nil_append,List.cons_append]
 gi_wp2
 gi_loopw [3] (fun v wr=>∃t,wr.cell? ⟨b,0,none⟩=some (.string t)∧wr.frozen? ⟨b,0,none⟩=false∧J t wr) (fun _ wr=>strIn wr b)
 case atStart=>exact⟨s,hc,hf,h0⟩
 case round =>
  obtain⟨wo,rfl⟩:∃wo:World,wo=wr:=⟨_,rfl⟩;obtain⟨t,hct,hft,hJ⟩:=hrel;obtain⟨hsz,hnl⟩:=hL t wo hJ
  by_cases he:t.data.toList = []
  ·have hz:¬(0:Int)<(t.size:Int):=by have:=size_len t;rw[he]at this;simp at this;omega
   have HJ:=mh hJ;have HE:=mh he;clear hJ he hnl hY hL
   gi_wp2
   go_end0
   exact⟨⟨_,rfl⟩,t,by simpa using HE.out,HJ.out⟩
  ·obtain⟨o,ho,hol⟩:=Wo.ix_of_last (hnl.resolve_left he)
   rw[size_len]at hol;have hp:(0:Int)<(t.size:Int):=by omega
   have hoz:(0:Int)≤(o:Int):=inn _;have I1:=mh (fun (V:World)=>by have k:=index10_any t V;rw[ho]at k;exact k);have HJ:=mh hJ;have HO:=mh ho;clear hJ ho he hnl hL
   gi_wp2_with (refine⟨trivial,?_⟩;gi_at_call 82;refine(callsIn_wide.2 (I1.out _)).mono ?_;rintro e w1 ⟨rfl,hw⟩;obtain rfl:=hw.symm)
   have hmx:Tryz.prog.follows .mixedOrders=true:=by kernel_rfl
   have hb1:(o:Int)+1≤(t.size:Int):=by omega
   have hb2:(0:Int)≤(o:Int)+1:=by omega
   have hw1:wrap64 ((o:Int)+1)=(o:Int)+1:=by unfold wrap64;omega
   have hb3:¬((o:Int)+1<0):=by omega
   gi_region
   trace_state
   all_goals
    have HL2:=mh (show strIn (wo.setCell ⟨b,0,none⟩ (.string (t.extract (o+1) t.size))).drew b=t.size∨True from .inr trivial);have hc2:(wo.setCell ⟨b,0,none⟩ (.string (t.extract (o+1) t.size))).drew.cell? ⟨b,0,none⟩=some (.string (t.extract (o+1) t.size)):=by
     rw[cell_drew_own];exact World.cell?_setCell_same' _ _ _ (by rw[hct];rfl)
    have hf2:(wo.setCell ⟨b,0,none⟩ (.string (t.extract (o+1) t.size))).drew.frozen? ⟨b,0,none⟩=false:=by
     rw[frozen_drew_own,World.frozen?_setCell];exact hft
    have hJ2:=hD _ _ (hS t wo (.string (t.extract (o+1) t.size)) HJ.out);generalize (wo.setCell ⟨b,0,none⟩ (.string (t.extract (o+1) t.size))).drew=w2 at *;obtain⟨fn,tmps,assign,body,hy,hR⟩:=hY t o w2 hJ2 HO.out hol hc2 hf2;have hm:(t.extract (o+1) t.size).size<t.size:=by
     have h1:=size_len (t.extract (o+1) t.size);rw[Lib.extract_data,List.take_of_length_le (by rw[List.length_drop,size_len];exact Nat.le_refl _),List.length_drop,size_len]at h1;omega
    have hms:=strIn_eq hct;clear hY hS hD HL2 HJ HO hJ2 hc2 hf2 hct hft
    gi_wp2
    refine hR.mono ?_
    rintro e W3 ⟨rfl,hJ3,hc3,hf3⟩
    gi_wp2
    go_roundw
    case rel=>exact⟨_,hc3,hf3,hJ3⟩
    case measure=>rw[strIn_eq hc3,hms];exact hm
attribute [local go_sem] Oper.semAt_some
def restOf (t:ByteArray) (o:Nat):ByteArray:=t.extract (o+1) t.size
def lineQ (b:Nat) (Ix:ByteArray→World→Prop) (t:ByteArray) (W:World):Exit→Act→World→Prop
 | .normal,_,W' => KeepsOthers W W' ∧ Ix t W' ∧ W'.cell? ⟨b,0,none⟩=some (.string t)∧W'.frozen? ⟨b,0,none⟩=false
 | _,_,_=>False
theorem wpIn_lines {n:Nat}{g:Operand}{ps:Array Tmp}{assign body:Code}{Q:Exit→Act→World→Prop}{a:Act}{w:World}(hn:2≤n)(b:Nat)(s:ByteArray)
  (hg:a.eval g = .func (.func 103) #[] #[.pointer (some ⟨b,0,none⟩)]) (hps:ps.size=1) (hb:b<w.heap.size) (hc:w.cell? ⟨b,0,none⟩=some (.string s)) (hf:w.frozen? ⟨b,0,none⟩=false)
  (Ix:ByteArray→World→Prop) (hI:OwnFrom w.heap.size Ix) (hD:∀t W,Ix t W→Ix t W.drew) (hS:∀t W v,Ix t W→Ix t (W.setCell ⟨b,0,none⟩ v))
  (hL:∀t W,Ix t W→t.size≤16384∧(t.data.toList = []∨t.data.toList.getLast?=some 10)) (h0:Ix s w) (a₁:ByteArray→Act)
  (hassign:∀(l:Nat) (x:ByteArray) (W:World) (K:Act→World→Prop),K (a₁ x) W →
   assign.wpIn (Fence.wide.inRound l) (n - 1 - 1) Tryz.prog (Exit.then K (fun _ _ _=>False)) { tmps:=(ps.zip #[Value.string x]).foldl (fun t (p,v)=>t.setIfInBounds p v) a.tmps,defers := [] } W)
  (hbody:∀(l:Nat) (t:ByteArray) (o:Nat) (W:World),Ix t W→Lib.indexByte t.data.toList 10=((o:Nat):Int)→o<t.size→W.cell? ⟨b,0,none⟩=some (.string (restOf t o))→W.frozen? ⟨b,0,none⟩=false →
   body.wpIn (Fence.wide.inRound l) (n - 1 - 1) Tryz.prog (lineQ b Ix (restOf t o) W) (a₁ (t.extract 0 (o+1))) W)
  (hdone:∀(D:Nat) (t:ByteArray) (W:World),w.heap.size≤D→t.data.toList = []→Ix t W→W.heap[D]?=some (.deferred (some []))→Q .normal { a with defers:={ target := .collected D,args:=#[] }::a.defers } W) :
  (Code.rangeFunc g ps assign body).wpIn Fence.wide n Tryz.prog Q a w:=by
 refine wpIn_rangeFunc ?_
 intro fn hfn;obtain⟨rec,hrec⟩:∃rec:LoopState→Option Code→Loop,rec=fun st pe=>{ state:=st,pending:=pe,fn,tmps:=a.tmps,params:=ps,assign,body,defers:=w.heap.size }:=⟨_,rfl⟩
 obtain⟨W1,hW1⟩:∃W1,(w.alloc (.deferred (some []))).alloc (.loop (rec .ready none))=W1:=⟨_,rfl⟩;have hL1:W1.heap[w.heap.size+1]?=some (.loop (rec .ready none)):=by
  rw[← hW1];have:=World.alloc_heap_new (w.alloc (.deferred (some []))) (.loop (rec .ready none));rwa [World.size_alloc]at this
 have hK1:W1.heap[w.heap.size]?=some (.deferred (some [])):=by
  rw[← hW1];exact(Below.heap_alloc _ _ _ (by simp)).trans (World.alloc_heap_new w _)
 have hI1:Ix s W1:=by rw[← hW1];exact hI.alloc _ (hI.alloc _ h0)
 have hb1:Below w.heap.size w W1:=by
  rw[← hW1];exact((brf _ w).alloc mle _).alloc (by simp) _
 have hcb:W1.cell? ⟨b,0,none⟩=some (.string s):=(hb1.cell (p:=⟨b,0,none⟩) hb).trans hc;have hfb:W1.frozen? ⟨b,0,none⟩=false:=(hb1.frozen (p:=⟨b,0,none⟩) hb).trans hf
 refine⟨w.heap.size+1, [{ target := .collected w.heap.size,args:=#[] }],W1,{ target := .fn (.func 103) #[.pointer (some ⟨b,0,none⟩)],args:=#[.func (.yield (w.heap.size+1)) #[] #[]] },W1,103,
  #[.func (.yield (w.heap.size+1)) #[] #[]]++#[.pointer (some ⟨b,0,none⟩)],W1,?_,?_,?_,?_,fun _=>by omega,?_⟩
 ·rw[← hW1,hrec];exact run_enterLoop_outer _ _ _ _ _
 ·simp only[resolve,hg]
  simp[go_sem]
 ·intro f' hf'; exact trivial
 ·simp[invoke,go_sem]
 ·refine(lines1_in (n - 1) (w.heap.size+1) b s (by omega) (fun t W=>Ix t W∧W.heap[w.heap.size+1]?=some (.loop (rec .ready none))∧W.heap[w.heap.size]?=some (.deferred (some [])))
   (fun t W h=>⟨hD _ _ h.1,h.2⟩) (fun t W v h=>⟨hS _ _ _ h.1,(KeepsOthers.setCell W _ v).same _ _ h.2.1 rfl,(KeepsOthers.setCell W _ v).same _ _ h.2.2 rfl⟩) (fun t W h=>hL t W h.1) ?_ W1 hcb hfb ⟨hI1,hL1,hK1⟩).mono ?_
  ·rintro t o W ⟨hi,hl,hk⟩ ho hol hcW hfW
   have hlt:w.heap.size+1<W.heap.size:=(Array.getElem?_eq_some_iff.1 hl).1;have hy:=run_yield (P:=Tryz.prog) (args:=#[Value.string (t.extract 0 (o+1))]) hl (by rw[hrec];exact hps.symm);rw[hrec]at hy;refine⟨fn,_,assign,body,hy,roundIn_of_wpIn hfn (hassign _ _ W _ ⟨_,run_beginRound hl (by rw[hrec]),?_⟩)⟩;have hl2:(W.putObj (w.heap.size+1) (.loop { rec .ready none with state := .busy })).heap[w.heap.size+1]?=some (.loop { rec .ready none with state := .busy }):=World.putObj_heap_same hlt;have hk2:(W.putObj (w.heap.size+1) (.loop { rec .ready none with state := .busy })).heap[w.heap.size]?=some (.deferred (some [])):=(World.putObj_heap_other (by omega)).trans hk;have hg2:=grownBy_putObj' W (w.heap.size+1) (.loop { rec .ready none with state := .busy });have hr2:∀r,some (w.heap.size+1)=some r→∃o:Obj,W.heap[r]?=some o∧o.isCells=false:=fun r e=>by cases e;exact⟨_,hl,rfl⟩
   refine wpIn_mono (hbody _ t o _ (hI.putObj _ hi (by omega) hl rfl) ho hol (cell_kept hcW hg2 hr2) ((frozen_kept hcW hg2 hr2).trans hfW)) ?_
   rintro e a3 W3 hp
   cases e with
   | normal =>
     obtain⟨hk3,hi3,hc3,hf3⟩:=hp;have hl3:=hk3.same _ _ hl2 rfl;have hr:=run_endRound (P:=Tryz.prog) none hl3;have hg3:=grownBy_putObj' W3 (w.heap.size+1) (.loop (rec .ready none));have hr3:∀r,some (w.heap.size+1)=some r→∃o:Obj,W3.heap[r]?=some o∧o.isCells=false:=fun r e=>by cases e;exact⟨_,hl3,rfl⟩
     refine⟨_,W3.putObj (w.heap.size+1) (.loop (rec .ready none)),by rw[hrec]at hr ⊢;exact hr,rfl,⟨hI.putObj _ hi3 (by omega) hl3 rfl,World.putObj_heap_same (Array.getElem?_eq_some_iff.1 hl3).1,(World.putObj_heap_other (by omega)).trans (hk3.same _ _ hk2 rfl)⟩,cell_kept hc3 hg3 hr3,(frozen_kept hc3 hg3 hr3).trans hf3⟩
   | ret=>exact hp.elim
   | exit id=>exact hp.elim
   | goto t=>exact hp.elim
   | panic ch=>exact hp.elim
   | outgrown=>exact hp.elim
  ·rintro e W2 ⟨⟨v,rfl⟩,t,ht,hi,hl,hk⟩
   exact⟨none,_,by have:=run_endLoop (P:=Tryz.prog) hl (by rw[hrec];simp);rw[hrec]at this;exact this,hdone _ t _ mle ht (hI.putObj _ hi (by omega) hl rfl) ((World.putObj_heap_other (by omega)).trans hk)⟩
open Go.Sort
theorem empty_any (s:ByteArray)(w:World):Calls Tryz.prog 77 #[.string s] w fun e w' => e = .returned (.bool s.toList.isEmpty)∧w' = w:=by
 by_cases h:s.toList = []
 ·have h2:s.toList.isEmpty=true:=by rw[h];rfl
  rw[h2]
  go_enter Tryz.func77,Tryz.ntmps77
  go_wp2
  go_ret
  exact⟨rfl,rfl⟩
 ·have h2:s.toList.isEmpty=false:=by cases e:s.toList with|nil=>exact absurd e h|cons a b=>rfl
  rw[h2]
  go_enter Tryz.func77,Tryz.ntmps77
  go_wp2
  go_ret
  exact⟨rfl,rfl⟩
theorem keeps_putRow {α:Type} [Inhabited α] (enc:α→Value) (w:World) (q blk off:Nat) (d:Array α) (hb:∃c T,w.heap[blk]?=some (.cells c T)):KeepsOthers w (putRow enc (Sort.ahead w q) blk off d):=by
 obtain⟨c,T,hb⟩:=hb;refine⟨by simp[putRow,mapBlock,Sort.ahead],fun k o hk ho=>?_⟩
 by_cases e:k=blk
 ·subst e;rw[hb]at hk;cases hk;cases ho
 ·simp only[putRow,mapBlock,Sort.ahead,Array.getElem?_modify,if_neg (Ne.symm e)]
  exact hk
theorem below_putRow {α:Type} [Inhabited α] (enc:α→Value) (w:World) (q blk off:Nat) (d:Array α):Below blk w (putRow enc (Sort.ahead w q) blk off d):=by
 refine⟨rfl,rfl,rfl,by simp[putRow,mapBlock,Sort.ahead],fun k hk=>?_⟩
 simp only[putRow,mapBlock,Sort.ahead,Array.getElem?_modify,if_neg (show ¬blk=k by omega)]
def DelGive (W:World) (B:Nat) (ws:List ByteArray) (e:Ending) (w' : World):Prop :=
 e = .returned (.slice (some ⟨B,0,none⟩) (ws.filter neB).length ws.length)∧Recs SB w' (some ⟨B,0,none⟩) (ws.filter neB)∧Below B W w' ∧ KeepsOthers W w'
theorem getElem!_arr {α:Type} [Inhabited α] (l:List α) (j:Nat) (h:j<l.length):l.toArray[j]! = l[j]:=by
 rw[getElem!_pos l.toArray j (by simpa using h)];simp
theorem delete_any (W:World)(B:Nat)(ws:List ByteArray)(hws:ws.length≤16385)(hB:W.heap[B]?=some (.cells (SB.flat ws).toArray 9))(hf:∀j,j<ws.length→W.frozen? ⟨B,j,none⟩=false) :
  Calls Tryz.prog 75 #[.slice (some ⟨B,0,none⟩) ws.length ws.length,.func (.func 77) #[] #[]] W (DelGive W B ws):=by
 have hl:(SB.flat ws).length=ws.length:=by rw[flat_str,List.length_map]
 have hc:∀j,j<ws.length→W.cell? ⟨B,j,none⟩=some (.string ws[j]!):=fun j hj=>by
  have:ws[j]! = ws[j]:=getElem!_pos ws j hj;rw[this];simp only[World.cell?,hB];rw[flat_str]
  simp[hj]
 have hH:Holds Value.string W B 0 ws.toArray:=fun j hj=>by
  have hj' : j<ws.length:=by simpa using hj
  refine⟨?_,by rw[Nat.zero_add];exact hf j hj'⟩
  rw[Nat.zero_add,hc j hj', getElem!_arr ws j hj', getElem!_pos ws j hj']
 have K:=Tryz.slices_DeleteFunc (α:=ByteArray) Value.string (fun _=>rfl) (fun x=>x.toList.isEmpty) 77 #[] (enters_of Tryz.func77 (by kernel_rfl) rfl) ⟨#[]⟩ Tryz.zeroValue9 B 0 ws.length ws.toArray W
  (fun V x _=>(empty_any x V).mono fun e w' ⟨he,hw⟩=>⟨he,0,hw⟩) (fun n os dk x _=>(empty_any x _).mono fun e w' ⟨he,hw⟩=>⟨he,0,hw⟩) hH (by simp;omega) (by simp)
 simp only[List.size_toArray]at K;refine K.mono fun e w' ⟨he,q,hw⟩=>?_
 have hfl:(ws.filter neB).length≤ws.length:=List.length_filter_le _ _;have hsz:(((ws.filter neB)++List.replicate (ws.length - (ws.filter neB).length) (⟨#[]⟩:ByteArray)).toArray).size=ws.toArray.size:=by simp;omega
 refine⟨he,?_,by rw[hw];exact below_putRow _ _ _ _ _ _,by rw[hw];exact keeps_putRow _ _ _ _ _ _ ⟨_,_,hB⟩⟩
 have hlt:B<W.heap.size:=(Array.getElem?_eq_some_iff.1 hB).1;refine Recs.of_cells (by unfold maxLen;omega) (by rw[hw];exact nll hlt (below_putRow _ _ _ _ _ _).size) fun n u hu=>?_
 rw[flat_str]at hu;have hn:n<(ws.filter neB).length:=by
  have:=(List.getElem?_eq_some_iff.1 hu).1
  simpa using this
 rw[List.getElem?_map,List.getElem?_eq_getElem hn]at hu;have hu' : u = .string (ws.filter neB)[n]:=by simpa using hu.symm
 rw[hw,hu'];have h3:=cell?_putRow Value.string (Sort.ahead W q) B 0 ws.toArray _ (holds_ahead _ _ _ _ _ _ hH) hsz n (by rw[hsz];simp;omega);refine h3.trans ?_;rw[getElem!_arr _ _ (by simp;omega),List.getElem_append_left hn]
theorem trim_any (t:ByteArray)(o:Nat)(ho:Lib.indexByte t.data.toList 10=((o:Nat):Int))(hol:o<t.size)(hsz:t.size≤16384)(W:World) :
  Calls Tryz.prog 74 #[.string (t.extract 0 (o+1)),.string ⟨#[10]⟩] W fun e w' => (∃l0:ByteArray,l0.data.toList=t.data.toList.take o∧l0.size≤16384∧e = .returned (.string l0))∧w' = W:=by
 have hx:(t.extract 0 (o+1)).data.toList=t.data.toList.take (o+1):=Lib.extract_from_zero t (o+1);have hlt:o<t.data.toList.length:=by rw[size_len];exact hol
 have h10:t.data.toList[o]?=some 10:=(Lib.indexByte_some ho).1;have hx2:(t.extract 0 (o+1)).data.toList=t.data.toList.take o ++ [10]:=by
  rw[hx,List.take_add_one,h10];rfl
 have hz:(t.extract 0 (o+1)).size≤16384:=by
  rw[← size_len,hx,List.length_take];rw[size_len];omega
 refine(Tryz.strings_TrimSuffix (t.extract 0 (o+1)) ⟨#[10]⟩ W (by omega)).mono fun e w' ⟨he,hw⟩=>⟨⟨_,?_,?_,he⟩,hw⟩
 ·show Lib.trimSuffix (t.extract 0 (o+1)).data.toList [10]=_
  rw[hx2];unfold Lib.trimSuffix Lib.hasSuffix;rw[if_pos (List.isSuffixOf_iff_suffix.2 (List.suffix_append _ _))]
  simp
 ·rw[← size_len]
  show(Lib.trimSuffix (t.extract 0 (o+1)).data.toList [10]).length≤_
  refine Nat.le_trans (Lib.trimSuffix_le _ _) ?_
  rw[size_len];exact hz
theorem cut35_any (l0:ByteArray)(hsz:l0.size≤16384)(W:World)(hE:Env W) :
  Calls Tryz.prog 73 #[.string l0,.string ⟨#[35]⟩] W fun e w' => (∃(l9 x:ByteArray) (y:Bool),l9.data.toList=l0.data.toList.takeWhile (· != 35)∧l9.size≤16384∧e = .returned (.tuple #[.string l9,.string x,.bool y]))∧∃q,w' = W.drewN q:=by
 obtain⟨m,hm⟩:=hE.ml;refine(Tryz.strings_Cut l0 ⟨#[35]⟩ m W (by omega) hm).mono fun e w' ⟨he,hw⟩=>⟨⟨_,_,_,?_,?_,he⟩,hw⟩
 ·exact Wo.cut_one l0.data.toList 35
 ·rw[← size_len]
  have e:(Lib.cut l0.data.toList [35]).1=l0.data.toList.takeWhile (· != 35):=Wo.cut_one l0.data.toList 35
  show(Lib.cut l0.data.toList [35]).1.length≤_
  rw[e];refine Nat.le_trans (List.takeWhile_sublist _).length_le ?_;rw[size_len];exact hsz
structure LI (s:ByteArray) (w0:World) (t:ByteArray) (W:World):Prop where
 st:∃v dn H,RS s w0 W t v dn H∧OwnR SH W 48 (w0.heap.size+2) v H∧(∀k (hk:k<H.length) x,H[k].p=some x→w0.heap.size+2≤x.block)∧W.cell? ⟨w0.heap.size,0,none⟩=some v
 fz:W.frozen? ⟨w0.heap.size,0,none⟩=false
 sz:t.size≤16384
 hp:w0.heap.size+2≤W.heap.size
theorem RS.world {s:ByteArray}{w wr w' : World}{t:ByteArray}{v:Value}{dn:List (List UInt8)}{H:List Hd}(h:RS s w wr t v dn H)(hO:OwnR SH w' 48 w.heap.size v H)(hz:wr.heap.size≤w'.heap.size)
  (hR:∀k (hk:k<H.length) (L:List ByteArray),Recs SB wr H[k].p L→Recs SB w' H[k].p L) (hB:Below w.heap.size w w'):RS s w w' t v dn H :=
 ⟨h.ln,h.nl,hO,h.hl,fun k hk hk' => ⟨(h.rows k hk hk').1,hR k hk _ (h.rows k hk hk').2.1,(h.rows k hk hk').2.2⟩,fun k hk x e=>⟨(h.apart k hk x e).1,nll (h.apart k hk x e).2 hz⟩,hB⟩
theorem LI.drew {s:ByteArray}{w0:World}{t:ByteArray}{W:World}(h:LI s w0 t W):LI s w0 t W.drew:=by
 obtain⟨⟨v,dn,H,hr,hO,hk,hc⟩,hf,hs,hp⟩:=h;exact⟨⟨v,dn,H,hr.world hr.own.drew mle (fun k hk L h=>h.drew) ⟨hr.below.os,hr.below.tape,hr.below.output,hr.below.size,hr.below.block⟩,hO.drew,hk,hc⟩,hf,hs,hp⟩
theorem setCell_block (W:World)(b i k:Nat)(u:Value)(h:k≠b):(W.setCell ⟨b,i,none⟩ u).heap[k]?=W.heap[k]?:=by
 rw[setCell_eq];simp only[mapBlock,Array.getElem?_modify,if_neg (Ne.symm h)]
theorem setCell_size (W:World)(b i:Nat)(u:Value):(W.setCell ⟨b,i,none⟩ u).heap.size=W.heap.size:=by
 rw[setCell_eq];simp[mapBlock]
theorem Recs.aside {W:World}{b i:Nat}{u:Value}{p:Option Addr}{L:List ByteArray}(h:Recs SB W p L)(hn:∀x,p=some x→x.block≠b):Recs SB (W.setCell ⟨b,i,none⟩ u) p L:=by
 refine⟨h.1,?_⟩
 rcases h.2 with e|⟨g,off,e,hl,hc⟩
 ·exact .inl e
 ·refine .inr ⟨g,off,e,by rw[setCell_size];exact hl,fun n u hu=>?_⟩
  exact(World.cell?_of_block (a:=⟨g,off+n,none⟩) (setCell_block W b i g _ (hn _ e))).trans (hc n u hu)
theorem LI.set {s:ByteArray}{w0:World}{t:ByteArray}{W:World}(h:LI s w0 t W)(u:Value):LI s w0 t (W.setCell ⟨w0.heap.size+1,0,none⟩ u):=by
 obtain⟨⟨v,dn,H,hr,hO,hk,hc⟩,hf,hs,hp⟩:=h;have hne:v.ownBlock≠some (w0.heap.size+1):=fun e=>by have:=(hO.lt e).1;omega
 refine⟨⟨v,dn,H,hr.world (hr.own.setOther hne u) (by rw[setCell_size];exact Nat.le_refl _) (fun k hk2 L h=>h.aside fun x e=>by have:=hk k hk2 x e;omega) (hr.below.setCell (p:=⟨w0.heap.size+1,0,none⟩) (by show _≤w0.heap.size+1;omega) u),hO.setOther hne u,hk,?_⟩,?_,hs,by rw[setCell_size];exact hp⟩
 ·rw[World.cell?_of_block (w:=W) (setCell_block _ _ _ _ _ (by show w0.heap.size≠w0.heap.size+1;omega))];exact hc
 ·rw[World.frozen?_setCell];exact hf
theorem LI.own {s:ByteArray}{w0:World}:OwnFrom (w0.heap.size+2) (LI s w0):=by
 rintro t W W' row ⟨⟨v,dn,H,hr,hO,hk,hc⟩,hf,hs,hp⟩ hg hrow;have hrow2:∀r,row=some r→∃o:Obj,W.heap[r]?=some o∧o.isCells=false:=fun r e=>(hrow r e).2
 have hB:∀{B:Nat} {v:Value} {H:List Hd},OwnR SH W 48 B v H→OwnR SH W' 48 B v H:=fun {B v H} h=>by
  rcases h.2 with⟨a,b⟩|⟨g,cap,cur,h1,h2,h3,h4⟩
  ·exact⟨h.1,.inl ⟨a,b⟩⟩
  ·exact⟨h.1,.inr ⟨g,cap,cur,h1,h2,(grownBy_keeps_cells hg hrow2 h3 rfl).trans h3,h4⟩⟩
 refine⟨⟨v,dn,H,hr.world (hB hr.own) hg.size (fun k hk2 L h=>⟨h.1,?_⟩) (hr.below.grown hg hr.below.size (fun k e=>by have:=(hrow k e).1;omega)),hB hO,hk,cell_kept hc hg hrow2⟩,(frozen_kept hc hg hrow2).trans hf,hs,Nat.le_trans hp hg.size⟩
 rcases h.2 with e|⟨g,off,e,hl,hcc⟩
 ·exact .inl e
 ·exact .inr ⟨g,off,e,nll hl hg.size,fun n u hu=>cell_kept (hcc n u hu) hg hrow2⟩
def plN (x:Nat):Bool:=decide (x=10)||(decide (32≤x)&&decide (x≤126))
theorem plN_high (x:Nat)(h:128≤x):(!plN x)=true:=by
 simp only[plN,Bool.not_eq_true', Bool.or_eq_false_iff,Bool.and_eq_false_iff,decide_eq_false_iff_not];omega
theorem plN_plainB (c:UInt8):plN c.toNat=Wo.plainB c:=by
 rcases plain_kinds c with⟨h,p⟩|⟨h,h2,p⟩|⟨h,h2,p⟩|⟨h,p⟩<;>rw[p]<;>simp only[plN,Bool.or_eq_true,Bool.and_eq_true,decide_eq_true_eq,Bool.or_eq_false_iff,Bool.and_eq_false_iff,decide_eq_false_iff_not]<;>omega
theorem plain_any (x:Nat)(w:World):Calls Tryz.prog 71 #[.int .i32 x] w fun e w' => e = .returned (.bool (plN x))∧w' = w:=by
 by_cases h1:x=10
 ·have HN:=mh (show plN x=true by simp only[plN,Bool.or_eq_true,Bool.and_eq_true,decide_eq_true_eq];omega)
  have h1' : ((x:Int)==10)=true:=by rw[h1];rfl
  clear h1
  go_enter Tryz.func71,Tryz.ntmps71
  go_wp2
  go_ret
  exact⟨ret_b HN.out.symm,rfl⟩
 have h1' : ((x:Int)==10)=false:=beq_eq_false_iff_ne.2 (by omega)
 by_cases h2:32≤x
 ·have h2' : (32:Int)≤(x:Int):=by omega
  by_cases h3:x≤126
  ·have HN:=mh (show plN x=true by simp only[plN,Bool.or_eq_true,Bool.and_eq_true,decide_eq_true_eq];omega)
   have h3' : (x:Int)≤126:=by omega
   clear h1 h2 h3
   go_enter Tryz.func71,Tryz.ntmps71
   go_wp2
   go_ret
   exact⟨ret_b HN.out.symm,rfl⟩
  ·have HN:=mh (show plN x=false by simp only[plN,Bool.or_eq_false_iff,Bool.and_eq_false_iff,decide_eq_false_iff_not];omega)
   have h3' : ¬(x:Int)≤126:=by omega
   clear h1 h2 h3
   go_enter Tryz.func71,Tryz.ntmps71
   go_wp2
   go_ret
   exact⟨ret_b HN.out.symm,rfl⟩
 ·have HN:=mh (show plN x=false by simp only[plN,Bool.or_eq_false_iff,Bool.and_eq_false_iff,decide_eq_false_iff_not];omega)
  have h2' : ¬(32:Int)≤(x:Int):=by omega
  clear h1 h2
  go_enter Tryz.func71,Tryz.ntmps71
  go_wp2
  go_ret
  exact⟨ret_b HN.out.symm,rfl⟩
theorem nplain_any (x:Nat)(w:World):Calls Tryz.prog 70 #[.int .i32 x] w fun e w' => e = .returned (.bool (!plN x))∧w' = w:=by
 have HP:=mh (plain_any x w);generalize plN x=bb at *
 go_enter Tryz.func70,Tryz.ntmps70
 go_wp2_with (first|(go_at_call 71;refine cmo HP.out ?_;rintro e w1 ⟨rfl,hw⟩;obtain rfl:=hw.symm))
 go_ret
 exact⟨rfl,rfl⟩
theorem enters_nplain:∀args w,(callFunc 70 args).run Tryz.prog w = .ok (.enter 70 args) w:=enters_of Tryz.func70 (by kernel_rfl) rfl
theorem notplain_any (s:ByteArray)(w:World):Calls Tryz.prog 69 #[.string s,.func (.func 70) #[] #[]] w fun e w' => e = .returned (.bool (!s.data.toList.all Wo.plainB))∧Below w.heap.size w w' :=by
 refine(Tryz.strings_ContainsFunc_runes 70 #[] enters_nplain (fun x => !plN x) s w (fun W x _ _=>(nplain_any x W).mono fun _ _ ⟨he,hw⟩=>⟨he,0,hw⟩)).mono fun e w' ⟨he,hb⟩=>⟨?_,hb⟩
 rw[he,Wo.contains_any _ plN_high]
 congr 2
 rw[List.not_all_eq_any_not]
 congr 1
 funext c
 rw[plN_plainB]
end Go.Proofs.YtbcmabolkkfgfaaGreatDoor
