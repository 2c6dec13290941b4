/- Packed. -/
import Derived.Test.YtbcmabolkkfgfaaGreatDoorQ5
set_option maxRecDepth 100000
set_option maxHeartbeats 8000000
open Go.Value renaming int → I
open Go.IntKind renaming i64 → O
namespace Go.Proofs.YtbcmabolkkfgfaaGreatDoor
open Go.RowKit
theorem w64_eq (x:Int):IntKind.i64.wrap x=Wo.w64 x:=by rw[IntKind.wrap_i64];rfl
theorem wrap64_i (x:Int):IntKind.i64.wrap x=wrap64 x:=by rw[IntKind.wrap_i64];unfold wrap64;rfl
theorem drop_take_self (l:List UInt8)(k:Nat):(l.take k).drop k = []:=List.drop_of_length_le (List.length_take_le _ _)
theorem take_drop_snoc (s:ByteArray)(j k:Nat)(hk:k≤j)(h:j<s.size):(s.data.toList.take (j+1)).drop k=(s.data.toList.take j).drop k ++ [s[j]]:=by
 have hl:s.data.toList.length=s.size:=by rw[Array.length_toList];rfl
 rw[Wo.take_snoc_bytes s j h,List.drop_append_of_le_length (by rw[List.length_take,hl];omega)]
theorem bad_digit (s:ByteArray)(j k:Nat)(hk:k≤j)(h:j<s.size)(hd:Wo.digB s[j]=false):(s.data.toList.drop k).all Wo.digB=false:=by
 have hl:s.data.toList.length=s.size:=by rw[Array.length_toList];rfl
 rw[Bool.eq_false_iff];intro ha;rw[List.all_eq_true]at ha;have hm:s[j]∈s.data.toList.drop k:=by
  rw[List.mem_drop_iff_getElem];exact⟨j - k,by omega,by simp only[Nat.add_sub_cancel' hk];rfl⟩
 rw[ha _ hm]at hd
 cases hd
theorem tail_neg (s:ByteArray)(h0:0<s.size)(h:((s[0]).toNat:Int)=45):Wo.tailN s.data.toList=s.data.toList.drop 1∧Wo.negN s.data.toList=true:=by
 have e:s.data.toList=s[0]::s.data.toList.drop 1:=by
  have hl:s.data.toList.length=s.size:=by rw[Array.length_toList];rfl
  have:=List.drop_eq_getElem_cons (l:=s.data.toList) (i:=0) (by omega);rw[List.drop_zero]at this;exact this
 have h' : (s[0]).toNat=45:=by omega
 rw[e];simp only[Wo.tailN,Wo.negN,h', if_true,decide_true];exact⟨rfl,trivial⟩
theorem tail_pos (s:ByteArray)(h0:0<s.size)(h:((s[0]).toNat:Int)≠45):Wo.tailN s.data.toList=s.data.toList.drop 0∧Wo.negN s.data.toList=false:=by
 have e:s.data.toList=s[0]::s.data.toList.drop 1:=by
  have hl:s.data.toList.length=s.size:=by rw[Array.length_toList];rfl
  have:=List.drop_eq_getElem_cons (l:=s.data.toList) (i:=0) (by omega);rw[List.drop_zero]at this;exact this
 have h' : ¬(s[0]).toNat=45:=by omega
 rw[e];simp only[Wo.tailN,Wo.negN,if_neg h', dqf h'];exact⟨rfl,trivial⟩
theorem refnumber_any (s:ByteArray)(least most:Int)(w:World)(hs:s.size≤9223372036854775807) :
  Calls Tryz.prog 84 #[.string s,I O least,I O most] w (NumGive s.data.toList least most w):=by
 have hlen:s.data.toList.length=s.size:=by rw[Array.length_toList];rfl
 by_cases h1:s.size=0
 ·have HN:=mh (num_none (Wo.numO_long (l:=s.data.toList) (.inl (by omega))) least most)
  have h1' : ((s.size:Int)==0)=true:=by rw[h1];rfl
  clear h1 hlen
  go_enter Tryz.func84,Tryz.ntmps84
  go_wp2
  go_ret2
  exact⟨ret_vb HN.out.1.symm HN.out.2.symm,brf _ _⟩
 have g1:((s.size:Int)==0)=false:=by rw[beq_eq_false_iff_ne];omega
 by_cases h2:20<s.size
 ·have HN:=mh (num_none (Wo.numO_long (l:=s.data.toList) (.inr (by omega))) least most)
  have h2' : (20:Int)<(s.size:Int):=by omega
  clear h1 h2 hlen
  go_enter Tryz.func84,Tryz.ntmps84
  go_wp2
  go_ret2
  exact⟨ret_vb HN.out.1.symm HN.out.2.symm,brf _ _⟩
 have g2:¬(20:Int)<(s.size:Int):=by omega
 have h0:0<s.size:=by omega
 by_cases h45:((s[0]).toNat:Int)=45
 ·obtain⟨ht,hm⟩:=tail_neg s h0 h45
  have HT:=mh ht;have HM:=mh hm;have b45:(((s[0]).toNat:Int)==45)=true:=by rw[h45];rfl
  clear ht hm h45 hlen h1 h2
  go_enter Tryz.func84,Tryz.ntmps84
  go_wp2
  clear b45
  go_loop [8,10] (fun n i=>∃j:Nat,1≤j∧j≤s.size∧i=I O j∧n=I O (Wo.foldN true ((s.data.toList.take j).drop 1))∧((s.data.toList.take j).drop 1).all Wo.digB=true) (fun _ i=>s.size - (intOf i).toNat)
  case atStart=>exact⟨1,Nat.le_refl _,by omega,rfl,by rw[drop_take_self];rfl,by rw[drop_take_self];rfl⟩
  case round =>
   obtain⟨j,hj0,hj,rfl,rfl,hall⟩:=hrel;have HA:=mh hall;have hjI:(0:Int)≤(j:Int):=inn _;obtain⟨v,ev⟩:∃x,Wo.foldN true ((s.data.toList.take j).drop 1)=x:=⟨_,rfl⟩;have hv:=Wo.foldN_bd true ((s.data.toList.take j).drop 1);rw[ev]at hv;obtain⟨v0,v1⟩:=hv;rw[ev];have EV:=mh ev;clear ev hall
   by_cases hlt:j<s.size
   ·have hsn:=take_drop_snoc s j 1 hj0 hlt
    have HS:=mh hsn;clear hsn
    by_cases c1:48≤((s[j]).toNat:Int)∧((s[j]).toNat:Int)≤57
    ·obtain⟨c1,c2⟩:=c1
     have hd:Wo.digB s[j]=true:=by simp only[Wo.digB,Bool.and_eq_true,decide_eq_true_eq];exact⟨c1,c2⟩
     have hu:IntKind.u8.wrap (((s[j]).toNat:Int) - 48)=((s[j]).toNat:Int) - 48:=by rw[IntWalk.u8_in];omega
     have HF:=mh (show Wo.foldN true ((s.data.toList.take (j+1)).drop 1)=IntKind.i64.wrap (IntKind.i64.wrap (10*v) - (((s[j]).toNat:Int) - 48)) by
      rw[HS.out,Wo.foldN_snoc,EV.out,w64_eq,w64_eq];rfl)
     have HG:=mh (show((s.data.toList.take (j+1)).drop 1).all Wo.digB=true by rw[HS.out,List.all_append,HA.out,Bool.true_and];simp[hd]);clear hd
     go_wp2
     go_round
     case rel=>exact⟨j+1,by omega,by omega,by go_num,by rw[HF.out,wrap64_i,wrap64_i],HG.out⟩
     case measure=>simp[intOf];omega
    ·have HB:=mh (show Wo.numO s.data.toList=none from Wo.numO_bad (by
      rw[HT.out];have hd:Wo.digB s[j]=false:=by simp only[Wo.digB,Bool.and_eq_false_iff,decide_eq_false_iff_not];omega
      exact bad_digit s j 1 hj0 hlt hd))
     have c1' : ((s[j]).toNat:Int)<48∨57<((s[j]).toNat:Int):=by omega
     clear c1
     rcases c1' with c1|c1
     all_goals
      go_wp2
      go_ret2
      exact⟨ret_vb (num_none HB.out _ _).1.symm (num_none HB.out _ _).2.symm,brf _ _⟩
   ·obtain rfl:j=s.size:=by omega
    have HV:=mh (show Wo.foldN (Wo.negN s.data.toList) (Wo.tailN s.data.toList)=v by
     rw[HT.out,HM.out,← EV.out,List.take_of_length_le (by rw[Array.length_toList];exact Nat.le_refl _)])
    have HI:=mh (fun (W:World)=>refdecimal_any (v.natAbs+1) v W (by omega) v0 v1);have hf:=Wo.numO_fold s.data.toList;rw[HV.out]at hf
    by_cases he:Lib.itoa v=s.data.toList
    ·rw[if_pos he]at hf
     have es:(⟨(Lib.itoa v).toArray⟩:ByteArray)=s:=by rw[he]
     have ES:=mh es;have HF:=mh hf;clear hf he es
     by_cases ho:v<least∨most<v
     ·have HN:=mh (num_out HF.out ho)
      rcases ho with ho|ho
      all_goals
       go_wp2_with (first|(go_at_call 24;refine cmo (HI.out _) ?_;rintro e w2 ⟨rfl,hb2⟩;rw[ES.out]))
       all_goals
        go_ret2
        exact⟨ret_vb HN.out.1.symm HN.out.2.symm,hb2⟩
     ·have HN:=mh (num_in HF.out ho)
      have ho1:¬v<least:=fun h=>ho (.inl h)
      have ho2:¬most<v:=fun h=>ho (.inr h)
      clear ho
      go_wp2_with (first|(go_at_call 24;refine cmo (HI.out _) ?_;rintro e w2 ⟨rfl,hb2⟩;rw[ES.out]))
      go_ret2
      exact⟨ret_vb HN.out.1.symm HN.out.2.symm,hb2⟩
    ·rw[if_neg he]at hf
     have HN:=mh (num_none hf least most);have es:((⟨(Lib.itoa v).toArray⟩:ByteArray).toList==s.toList)=false:=sneq (by exact he);clear hf he;obtain⟨sv,esv⟩:∃x:ByteArray,(⟨(Lib.itoa v).toArray⟩:ByteArray)=x:=⟨_,rfl⟩;rw[esv]at es;have ES:=mh esv;clear esv
     go_wp2_with (first|(go_at_call 24;refine cmo (HI.out _) ?_;rintro e w2 ⟨rfl,hb2⟩;rw[ES.out]))
     go_ret2
     exact⟨ret_vb HN.out.1.symm HN.out.2.symm,hb2⟩
 ·obtain⟨ht,hm⟩:=tail_pos s h0 h45
  have HT:=mh ht;have HM:=mh hm;have b45:(((s[0]).toNat:Int)==45)=false:=beq_eq_false_iff_ne.2 h45;clear ht hm h45 hlen h1 h2
  go_enter Tryz.func84,Tryz.ntmps84
  go_wp2
  clear b45
  go_loop [8,10] (fun n i=>∃j:Nat,0≤j∧j≤s.size∧i=I O j∧n=I O (Wo.foldN false ((s.data.toList.take j).drop 0))∧((s.data.toList.take j).drop 0).all Wo.digB=true) (fun _ i=>s.size - (intOf i).toNat)
  case atStart=>exact⟨0,Nat.le_refl _,by omega,rfl,by rw[drop_take_self];rfl,by rw[drop_take_self];rfl⟩
  case round =>
   obtain⟨j,hj0,hj,rfl,rfl,hall⟩:=hrel;have HA:=mh hall;have hjI:(0:Int)≤(j:Int):=inn _;obtain⟨v,ev⟩:∃x,Wo.foldN false ((s.data.toList.take j).drop 0)=x:=⟨_,rfl⟩;have hv:=Wo.foldN_bd false ((s.data.toList.take j).drop 0);rw[ev]at hv;obtain⟨v0,v1⟩:=hv;rw[ev];have EV:=mh ev;clear ev hall
   by_cases hlt:j<s.size
   ·have hsn:=take_drop_snoc s j 0 hj0 hlt
    have HS:=mh hsn;clear hsn
    by_cases c1:48≤((s[j]).toNat:Int)∧((s[j]).toNat:Int)≤57
    ·obtain⟨c1,c2⟩:=c1
     have hd:Wo.digB s[j]=true:=by simp only[Wo.digB,Bool.and_eq_true,decide_eq_true_eq];exact⟨c1,c2⟩
     have hu:IntKind.u8.wrap (((s[j]).toNat:Int) - 48)=((s[j]).toNat:Int) - 48:=by rw[IntWalk.u8_in];omega
     have HF:=mh (show Wo.foldN false ((s.data.toList.take (j+1)).drop 0)=IntKind.i64.wrap (IntKind.i64.wrap (10*v)+(((s[j]).toNat:Int) - 48)) by
      rw[HS.out,Wo.foldN_snoc,EV.out,w64_eq,w64_eq];rfl)
     have HG:=mh (show((s.data.toList.take (j+1)).drop 0).all Wo.digB=true by rw[HS.out,List.all_append,HA.out,Bool.true_and];simp[hd]);clear hd
     go_wp2
     go_round
     case rel=>exact⟨j+1,by omega,by omega,by go_num,by rw[HF.out,wrap64_i,wrap64_i],HG.out⟩
     case measure=>simp[intOf];omega
    ·have HB:=mh (show Wo.numO s.data.toList=none from Wo.numO_bad (by
      rw[HT.out];have hd:Wo.digB s[j]=false:=by simp only[Wo.digB,Bool.and_eq_false_iff,decide_eq_false_iff_not];omega
      exact bad_digit s j 0 hj0 hlt hd))
     have c1' : ((s[j]).toNat:Int)<48∨57<((s[j]).toNat:Int):=by omega
     clear c1
     rcases c1' with c1|c1
     all_goals
      go_wp2
      go_ret2
      exact⟨ret_vb (num_none HB.out _ _).1.symm (num_none HB.out _ _).2.symm,brf _ _⟩
   ·obtain rfl:j=s.size:=by omega
    have HV:=mh (show Wo.foldN (Wo.negN s.data.toList) (Wo.tailN s.data.toList)=v by
     rw[HT.out,HM.out,← EV.out,List.take_of_length_le (by rw[Array.length_toList];exact Nat.le_refl _)])
    have HI:=mh (fun (W:World)=>refdecimal_any (v.natAbs+1) v W (by omega) v0 v1);have hf:=Wo.numO_fold s.data.toList;rw[HV.out]at hf
    by_cases he:Lib.itoa v=s.data.toList
    ·rw[if_pos he]at hf
     have es:(⟨(Lib.itoa v).toArray⟩:ByteArray)=s:=by rw[he]
     have ES:=mh es;have HF:=mh hf;clear hf he es
     by_cases ho:v<least∨most<v
     ·have HN:=mh (num_out HF.out ho)
      rcases ho with ho|ho
      all_goals
       go_wp2_with (first|(go_at_call 24;refine cmo (HI.out _) ?_;rintro e w2 ⟨rfl,hb2⟩;rw[ES.out]))
       all_goals
        go_ret2
        exact⟨ret_vb HN.out.1.symm HN.out.2.symm,hb2⟩
     ·have HN:=mh (num_in HF.out ho)
      have ho1:¬v<least:=fun h=>ho (.inl h)
      have ho2:¬most<v:=fun h=>ho (.inr h)
      clear ho
      go_wp2_with (first|(go_at_call 24;refine cmo (HI.out _) ?_;rintro e w2 ⟨rfl,hb2⟩;rw[ES.out]))
      go_ret2
      exact⟨ret_vb HN.out.1.symm HN.out.2.symm,hb2⟩
    ·rw[if_neg he]at hf
     have HN:=mh (num_none hf least most);have es:((⟨(Lib.itoa v).toArray⟩:ByteArray).toList==s.toList)=false:=sneq (by exact he);clear hf he;obtain⟨sv,esv⟩:∃x:ByteArray,(⟨(Lib.itoa v).toArray⟩:ByteArray)=x:=⟨_,rfl⟩;rw[esv]at es;have ES:=mh esv;clear esv
     go_wp2_with (first|(go_at_call 24;refine cmo (HI.out _) ?_;rintro e w2 ⟨rfl,hb2⟩;rw[ES.out]))
     go_ret2
     exact⟨ret_vb HN.out.1.symm HN.out.2.symm,hb2⟩
def SB:Shape ByteArray:=⟨1,fun s => [.string s],fun _=>rfl,by decide,fun a u hu=>by
 simp only[List.mem_singleton]at hu;subst hu
 rfl⟩
structure Hd where
 p:Option Addr
 n:Nat
 c:Nat
instance:Inhabited Hd:=⟨⟨none,0,0⟩⟩
def SH:Shape Hd:=⟨1,fun h => [.slice h.p h.n h.c],fun _=>rfl,by decide,fun a u hu=>by
 simp only[List.mem_singleton]at hu;subst hu
 rfl⟩
theorem el_str:Elem SB Tryz.prog 9 48 16:=by
 have h:(Tryz.prog.info? 9).map (fun i=>(i.zero,i.size,i.bytes))=some (some (.string ByteArray.empty),1,16):=by kernel_rfl
 obtain⟨i0,h1,h2,h3,h4⟩:=info_parts h;exact⟨⟨i0,_,h1,h2,h3,h4,rfl⟩,Tryz.underlying48⟩
theorem el_row:Elem SH Tryz.prog 48 65 24:=by
 have h:(Tryz.prog.info? 48).map (fun i=>(i.zero,i.size,i.bytes))=some (some (.slice none 0 0),1,24):=by kernel_rfl
 obtain⟨i0,h1,h2,h3,h4⟩:=info_parts h;exact⟨⟨i0,_,h1,h2,h3,h4,rfl⟩,Tryz.underlying65⟩
def bs (l:List UInt8):ByteArray:=⟨l.toArray⟩
def WordsAt (w:World) (h:Hd) (ws:List ByteArray):Prop:=h.n=ws.length∧Recs SB w h.p ws∧(h.p=none→h.c=0)∧h.n≤h.c
def LinesAt (w:World) (p:Option Addr) (LL:List (List ByteArray)):Prop :=
 ∃H:List Hd,H.length=LL.length∧Recs SH w p H∧∀k (hk:k<H.length) (hk' : k<LL.length),WordsAt w H[k] LL[k]
theorem WordsAt.below {w w' : World}{h:Hd}{ws:List ByteArray}(hh:WordsAt w h ws)(hb:Below w.heap.size w w'):WordsAt w' h ws :=
 ⟨hh.1,hh.2.1.below hb,hh.2.2⟩
theorem LinesAt.below {w w' : World}{p:Option Addr}{LL:List (List ByteArray)}(h:LinesAt w p LL)(hb:Below w.heap.size w w'):LinesAt w' p LL:=by
 obtain⟨H,h1,h2,h3⟩:=h;exact⟨H,h1,h2.below hb,fun k hk hk' => (h3 k hk hk').below hb⟩
theorem LinesAt.at {w:World}{p:Option Addr}{LL:List (List ByteArray)}(h:LinesAt w p LL){k:Nat}(hk:k<LL.length) :
  ∃b off q n c,p=some ⟨b,off,none⟩∧b<w.heap.size∧w.cell? ⟨b,off+k,none⟩=some (.slice q n c)∧n=LL[k].length∧Recs SB w q LL[k]∧(q=none→c=0)∧n≤c:=by
 obtain⟨H,h1,h2,h3⟩:=h;obtain⟨b,off,hp,hl,hc⟩:=h2.at (k:=k) (by omega);obtain⟨e,hr,hn,hle⟩:=h3 k (by omega) hk;refine⟨b,off,H[k].p,H[k].n,H[k].c,hp,hl,?_,e,hr,hn,hle⟩;have:=hc 0 _ rfl
 simpa [SH] using this
theorem Recs.word {w:World}{q:Option Addr}{ws:List ByteArray}(h:Recs SB w q ws){j:Nat}(hj:j<ws.length):∃b off,q=some ⟨b,off,none⟩∧b<w.heap.size∧w.cell? ⟨b,off+j,none⟩=some (.string ws[j]):=by
 obtain⟨b,off,hp,hl,hc⟩:=h.at hj;exact⟨b,off,hp,hl,by have:=hc 0 _ rfl;simpa [SB] using this⟩
def sLines (s:ByteArray):List (List ByteArray):=(Wo.sList s.data.toList).map fun ws=>ws.map bs
def SplitGive (s:ByteArray) (w:World) (e:Ending) (w' : World):Prop :=
 ∃p c,e = .returned (.tuple #[.slice p (sLines s).length c,I O (Wo.sErr s.data.toList)])∧LinesAt w' p (sLines s)∧(p=none→c=0)∧Below w.heap.size w w'
theorem LinesAt.nil (w:World)(p:Option Addr):LinesAt w p []:=⟨[],rfl,Recs.nil _ _,fun k hk=>by simp at hk⟩
theorem split_bad {s:ByteArray}{er:Int}(h:Wo.sErr s.data.toList=er)(hne:er≠0)(w w' : World)(hb:Below w.heap.size w w'):SplitGive s w (.returned (.tuple #[.slice none 0 0,I O er])) w' :=by
 have e:sLines s = []:=by unfold sLines Wo.sList;rw[if_neg (by rw[h];exact hne)];rfl
 refine⟨none,0,?_,?_,fun _=>rfl,hb⟩
 ·rw[e,h];rfl
 ·rw[e];exact LinesAt.nil _ _
theorem sErr_long {l:List UInt8}(h:16384<l.length∨400<l.count 10):Wo.sErr l=1:=by unfold Wo.sErr;rw[if_pos h]
theorem sErr_form {l:List UInt8}(h:¬(16384<l.length∨400<l.count 10))(k:(l ≠ []∧l.getLast?≠some 10)∨l.all Wo.plainB=false):Wo.sErr l=4:=by unfold Wo.sErr;rw[if_neg h,if_pos k]
theorem sErr_ok {l:List UInt8}(h:¬(16384<l.length∨400<l.count 10))(k:¬((l ≠ []∧l.getLast?≠some 10)∨l.all Wo.plainB=false)):Wo.sErr l=0:=by unfold Wo.sErr;rw[if_neg h,if_neg k]
theorem plain_kinds (c:UInt8):((c.toNat:Int)=10∧Wo.plainB c=true)∨((c.toNat:Int)≠10∧(c.toNat:Int)<32∧Wo.plainB c=false)∨(32≤(c.toNat:Int)∧(c.toNat:Int)≤126∧Wo.plainB c=true)∨(126<(c.toNat:Int)∧Wo.plainB c=false):=by
 have e:(c==10)=decide ((c.toNat:Int)=10):=by
  rw[Bool.eq_iff_iff,beq_iff_eq,decide_eq_true_eq]
  constructor
  ·rintro rfl;rfl
  ·intro h;exact UInt8.toNat_inj.1 (by rw[show c.toNat=10 by omega];rfl)
 simp only[Wo.plainB,e,Bool.or_eq_true,Bool.or_eq_false_iff,Bool.and_eq_true,Bool.and_eq_false_iff,decide_eq_true_eq,decide_eq_false_iff_not];omega
theorem all_take_snoc (s:ByteArray)(k:Nat)(h:k<s.size)(p:UInt8→Bool):(s.data.toList.take (k+1)).all p=((s.data.toList.take k).all p&&p s[k]):=by
 rw[Wo.take_snoc_bytes s k h,List.all_append];simp
theorem all_take_false {l:List UInt8}{p:UInt8→Bool}{k:Nat}(h:(l.take k).all p=false):l.all p=false:=by
 rw[Bool.eq_false_iff]at h ⊢;intro ha;rw[← List.take_append_drop k l,List.all_append,Bool.and_eq_true]at ha;exact h ha.1
theorem size_len (s:ByteArray):s.data.toList.length=s.size:=by rw[Array.length_toList];rfl
theorem last_at (s:ByteArray)(n:Nat)(hnl:n<s.size)(hn:s.size=n+1):s.data.toList.getLast?=some s[n]:=by
 have e:s.size - 1=n:=by omega
 rw[List.getLast?_eq_getElem?,size_len,e];exact List.getElem?_eq_getElem (by rw[size_len];exact hnl)
structure RS (s:ByteArray) (w wr:World) (t:ByteArray) (v:Value) (dn:List (List UInt8)) (H:List Hd):Prop where
 ln:Wo.lns s.data.toList=dn++Wo.lns t.data.toList
 nl:t.data.toList = []∨t.data.toList.getLast?=some 10
 own:OwnR SH wr 48 w.heap.size v H
 hl:H.length=dn.length
 rows:∀k (hk:k<H.length) (hk' : k<dn.length),WordsAt wr H[k] ((Wo.wds dn[k]).map bs)
 apart:∀k (hk:k<H.length) x,H[k].p=some x→v.ownBlock≠some x.block∧x.block<wr.heap.size
 below:Below w.heap.size w wr
theorem Recs.far {α:Type}{S:Shape α}{w w' : World}{p:Option Addr}{L:List α}{B G:Nat}{v v' : Value}(h:Recs S w p L)(ha:Appends w w' B G v v')(hn:∀x,p=some x→v.ownBlock≠some x.block):Recs S w' p L:=by
 refine⟨h.1,?_⟩
 rcases h.2 with e|⟨b,off,e,hl,hc⟩
 ·exact .inl e
 ·refine .inr ⟨b,off,e,nll hl ha.size,fun n u hu=>?_⟩
  rw[World.cell?_of_block (w:=w) (ha.far b hl (hn _ e))];exact hc n u hu
def neB (x:ByteArray):Bool := !x.toList.isEmpty
theorem words_of (ws:List ByteArray)(l:List UInt8)(h:ws.map (·.data.toList)=Wo.pcs 32 [] (l.takeWhile (· != 35))):ws.filter neB=(Wo.wds l).map bs:=by
 unfold Wo.wds;rw[← h];clear h
 induction ws with
 | nil=>rfl
 | cons a r ih =>
   have e:neB a=decide (a.data.toList ≠ []):=by
    unfold neB;rw[ByteArray.toList_eq]
    cases a.data.toList<;>rfl
   rw[List.map_cons,List.filter_cons,List.filter_cons,e,ih]
   split
   ·rw[List.map_cons];rfl
   ·rfl
theorem RS.next {s:ByteArray}{w wo wr w' : World}{t t2:ByteArray}{v v' : Value}{dn:List (List UInt8)}{H:List Hd}{o:Nat}{p:Option Addr}{c B G:Nat}{L:List ByteArray}(h:RS s w wo t v dn H)(ho:Lib.indexByte t.data.toList 10=(o:Int))(ht:t2.data.toList=t.data.toList.drop (o+1))
  (hb:Below wo.heap.size wo wr) (hL:L=(Wo.wds (t.data.toList.take o)).map bs) (hw:WordsAt wr ⟨p,L.length,c⟩ L) (hp:∀x,p=some x→wo.heap.size≤x.block∧x.block<wr.heap.size)
  (hG:wr.heap.size≤G) (hO:OwnR SH w' 48 w.heap.size v' (H ++ [⟨p,L.length,c⟩])) (ha:Appends wr w' B G v v') (hB:Below w.heap.size w w'):RS s w w' t2 v' (dn ++ [t.data.toList.take o]) (H ++ [⟨p,L.length,c⟩]):=by
 have hv:∀g,v.ownBlock=some g→g<wo.heap.size:=fun g e=>(h.own.lt e).2
 have hpn:∀x,p=some x→v.ownBlock≠some x.block:=fun x e e2=>by have:=hv _ e2;have:=(hp x e).1;omega
 refine⟨?_,?_,hO,by simp[h.hl],fun k hk hk' => ?_,fun k hk x e=>?_,hB⟩
 ·rw[h.ln,Wo.lns_ix ho,ht,List.append_assoc];rfl
 ·rw[ht]
  rcases h.nl with e|e
  ·left;rw[e];simp
  ·exact Wo.last_drop e _
 ·by_cases hlt:k<H.length
  ·rw[List.getElem_append_left hlt]
   have hd:k<dn.length:=by rw[← h.hl];exact hlt
   rw[List.getElem_append_left hd];obtain⟨r1,r2,r3⟩:=h.rows k hlt hd;exact⟨r1,(r2.below hb).far ha (fun x e=>(h.apart k hlt x e).1),r3⟩
  ·have ek:k=H.length:=by simp at hk;omega
   subst ek;have e2:(dn ++ [t.data.toList.take o])[H.length]=t.data.toList.take o:=by
    rw[List.getElem_append_right (by rw[h.hl];exact Nat.le_refl _)];simp[h.hl]
   have e1:(H ++ [(⟨p,L.length,c⟩:Hd)])[H.length]=⟨p,L.length,c⟩:=by
    rw[List.getElem_append_right mle];simp
   rw[e1,e2,← hL];exact⟨hw.1,hw.2.1.far ha hpn,hw.2.2⟩
 ·have hx:x.block<wr.heap.size∧v.ownBlock≠some x.block:=by
   by_cases hlt:k<H.length
   ·rw[List.getElem_append_left hlt]at e
    have:=h.apart k hlt x e;exact⟨nll this.2 hb.size,this.1⟩
   ·have ek:k=H.length:=by simp at hk;omega
    subst ek;rw[List.getElem_append_right mle]at e;have e' : p=some x:=by simpa using e
    exact⟨(hp x e').2,hpn x e'⟩
  refine⟨?_,nll hx.1 ha.size⟩
  rcases ha.block with e3|e3
  ·rw[e3];exact hx.2
  ·rw[e3];intro e4;injection e4 with e4;omega
theorem index10_any (s:ByteArray)(w:World):Calls Tryz.prog 82 #[.string s,.int .u8 10] w fun e w' => e = .returned (I O (Lib.indexByte s.data.toList 10))∧w' = w:=Tryz.strings_IndexByte s 10 w
theorem index35_any (s:ByteArray)(w:World):Calls Tryz.prog 82 #[.string s,.int .u8 35] w fun e w' => e = .returned (I O (Lib.indexByte s.data.toList 35))∧w' = w:=Tryz.strings_IndexByte s 35 w
theorem flat_str (ws:List ByteArray):SB.flat ws=ws.map Value.string:=by
 unfold Shape.flat
 induction ws with
 | nil=>rfl
 | cons a l ih=>rw[List.flatMap_cons,ih];rfl
def PcsGive (s:ByteArray) (w:World) (e:Ending) (w' : World):Prop :=
 ∃ws:List ByteArray,ws.map (·.data.toList)=Wo.pcs 32 [] s.data.toList∧ws.length≤s.size+1∧e = .returned (.slice (some ⟨w.heap.size,0,none⟩) ws.length ws.length)∧w' = w.alloc (.cells (SB.flat ws).toArray 9)
theorem split32_any (s:ByteArray)(w:World)(hE:Env w)(hs:s.size<4294967281):Calls Tryz.prog 76 #[.string s,.string ⟨#[32]⟩] w (PcsGive s w):=by
 obtain⟨m,hm⟩:=hE.ml;refine(Tryz.strings_Split s ⟨#[32]⟩ m w hs hm (by decide)).mono fun e w' ⟨he,hw⟩=>?_
 have hl:=Lib.splitB_all ⟨#[32]⟩ (by decide) 0 _ s rfl;have hp:=Wo.split_pcs 32 s;refine⟨_,hp,?_,by rw[hl];exact he,by rw[flat_str];exact hw⟩;have h1:=congrArg List.length hp;rw[List.length_map]at h1;have h2:=Wo.pcs_len 32 s.data.toList [];rw[size_len]at h2;omega
def strOf:Value→Nat
 | .string b=>b.size
 | _=>0
theorem refsplit_any (s:ByteArray)(w:World)(hE:Env w)(hs:s.size≤9223372036854775807) :
  Calls Tryz.prog 43 #[.string s] w (SplitGive s w):=by
 have hlen:=size_len s
 by_cases h1:16384<s.size
 ·have HF:=mh (split_bad (sErr_long (l:=s.data.toList) (.inl (by omega))) (by decide) w w (brf _ _))
  have h1' : (16384:Int)<(s.size:Int):=by omega
  clear h1 hlen hE
  go_enter Tryz.func43,Tryz.ntmps43
  go_wp2
  go_ret2
  exact HF.out
 have g1:¬(16384:Int)<(s.size:Int):=by omega
 have C1:=mh (fun (W:World)=>Tryz.strings_Count_one s 10 W);obtain⟨cn,ecn⟩:∃n:Nat,Lib.countByte s.data.toList 10=n:=⟨_,rfl⟩;rw[ecn]at C1;have ecn' : s.data.toList.count 10=cn:=ecn
 by_cases h2:400<cn
 ·have HF:=mh (split_bad (sErr_long (l:=s.data.toList) (.inr (by rw[ecn'];omega))) (by decide) w w (brf _ _))
  have h2' : (400:Int)<(cn:Int):=by omega
  clear h1 h2 hlen hE ecn ecn'
  go_enter Tryz.func43,Tryz.ntmps43
  go_wp2_with (first|(go_at_call 47;refine cmo (C1.out _) ?_;rintro e w1 ⟨rfl,hw⟩;obtain rfl:=hw.symm))
  go_ret2
  exact HF.out
 have g2:¬(400:Int)<(cn:Int):=by omega
 have hL:=mh (show ¬(16384<s.data.toList.length∨400<s.data.toList.count 10) by rw[ecn'];omega);clear ecn ecn' h1 h2;have HW:=mh hE
 -- the last byte
 have hcase:(s.toList = []∧s.data.toList = [])∨(¬s.toList = []∧s.data.toList ≠ []∧∃n,s.size=n+1):=by
  rcases Nat.eq_zero_or_pos s.size with h|h
  ·have e:s.data.toList = []:=List.length_eq_zero_iff.1 (by omega)
   exact .inl ⟨by rw[ByteArray.toList_eq];exact e,e⟩
  ·have e:s.data.toList ≠ []:=fun e=>by rw[e]at hlen;simp at hlen;omega
   exact .inr ⟨by rw[ByteArray.toList_eq];exact e,e,s.size - 1,by omega⟩
 clear hE hlen
 rcases hcase with⟨t0,d0⟩|⟨t0,d0,n,hn⟩
 ·have hok:Wo.sErr s.data.toList=0:=sErr_ok hL.out (by rw[d0];simp)
  have HF:=mh (show SplitGive s w (.returned (.tuple #[.slice none 0 0,I O 0])) w by
   have e:sLines s = []:=by unfold sLines Wo.sList;rw[if_pos hok,d0];rfl
   exact⟨none,0,by rw[e,hok];rfl,by rw[e];exact LinesAt.nil _ _,fun _=>rfl,brf _ _⟩)
  have hz:¬(0:Int)<(s.size:Int):=by have:=size_len s;rw[d0]at this;simp at this;omega
  clear d0 hok
  go_enter Tryz.func43,Tryz.ntmps43
  go_wp2_with (first|(go_at_call 47;refine cmo (C1.out _) ?_;rintro e w1 ⟨rfl,hw⟩;obtain rfl:=hw.symm))
  go_loop [4] (fun i=>i=I O 0) (fun _=>0)
  case atStart=>exact rfl
  case round =>
   obtain rfl:=hrel
   go_wp2
   go_loopw [0,5] (fun t v wr=>t = .string s∧v = .slice none 0 0∧wr=w) (fun _ _ _=>0)
   case atStart=>exact⟨rfl,rfl,rfl⟩
   case round =>
    obtain⟨rfl,rfl,rfl⟩:=hrel
    go_wp2
    go_ret2
    exact HF.out
 have t1:s.toList.isEmpty=false:=by cases h:s.toList with|nil=>exact absurd h t0|cons a b=>rfl
 have hnl:n<s.size:=by omega
 have hz:(s.size:Int) - 1=(n:Int):=by omega
 have hla:=last_at s n hnl hn;have HA:=mh hla;have HN:=mh hn;have HD:=mh d0;clear hla hn d0
 by_cases hc:((s[n]).toNat:Int)=10
 rotate_left
 ·have HF:=mh (split_bad (sErr_form hL.out (.inl ⟨HD.out,by rw[HA.out];intro e;injection e with e;exact hc (by rw[e];rfl)⟩)) (by decide) w w (brf _ _))
  have hcb:(((s[n]).toNat:Int) != 10)=true:=by simpa using hc
  clear hc
  go_enter Tryz.func43,Tryz.ntmps43
  go_wp2_with (first|(go_at_call 47;refine cmo (C1.out _) ?_;rintro e w1 ⟨rfl,hw⟩;obtain rfl:=hw.symm))
  go_ret2
  exact HF.out
 have hcb:(((s[n]).toNat:Int) != 10)=false:=by rw[hc];rfl
 have HLast:=mh (show s.data.toList.getLast?=some 10 by rw[HA.out];exact congrArg some (UInt8.toNat_inj.1 (by rw[show(s[n]).toNat=10 by omega];rfl)));clear hc HA
 go_enter Tryz.func43,Tryz.ntmps43
 go_wp2_with (first|(go_at_call 47;refine cmo (C1.out _) ?_;rintro e w1 ⟨rfl,hw⟩;obtain rfl:=hw.symm))
 clear hcb hz
 go_loop [4] (fun i=>∃k:Nat,k≤s.size∧i=I O k∧(s.data.toList.take k).all Wo.plainB=true) (fun i=>s.size - (intOf i).toNat)
 case atStart=>exact⟨0,Nat.zero_le _,rfl,rfl⟩
 case round =>
  obtain⟨k,hk,rfl,hh⟩:=hrel;have HH:=mh hh;clear hh;have hk0:(0:Int)≤(k:Int):=inn _
  by_cases hlt:k<s.size
  ·have HS:=mh (all_take_snoc s k hlt Wo.plainB)
   rcases plain_kinds s[k] with⟨c1,p1⟩|⟨c1,c2,p1⟩|⟨c1,c2,p1⟩|⟨c1,p1⟩
   ·rw[HH.out,p1]at HS
    have cb:(((s[k]).toNat:Int) != 10)=false:=by rw[c1];rfl
    clear p1 c1
    go_wp2
    go_round
    case rel=>exact⟨k+1,by omega,by go_num,HS.out⟩
    case measure=>simp[intOf];omega
   ·rw[HH.out,p1]at HS
    have HF:=mh (split_bad (sErr_form hL.out (.inr (all_take_false HS.out))) (by decide) w w (brf _ _));have cb:(((s[k]).toNat:Int) != 10)=true:=by simpa using c1
    clear p1 c1
    go_wp2
    go_ret2
    exact HF.out
   ·rw[HH.out,p1]at HS
    have cb:(((s[k]).toNat:Int) != 10)=true:=by simp;omega
    clear p1
    go_wp2
    go_round
    case rel=>exact⟨k+1,by omega,by go_num,HS.out⟩
    case measure=>simp[intOf];omega
   ·rw[HH.out,p1]at HS
    have HF:=mh (split_bad (sErr_form hL.out (.inr (all_take_false HS.out))) (by decide) w w (brf _ _));have cb:(((s[k]).toNat:Int) != 10)=true:=by simp;omega
    clear p1
    go_wp2
    go_ret2
    exact HF.out
  ·obtain rfl:k=s.size:=by omega
   have hok:Wo.sErr s.data.toList=0:=sErr_ok hL.out (by
    rintro (⟨-,h⟩|h)
    ·exact h HLast.out
    ·have:=HH.out
     rw[List.take_of_length_le (by rw[size_len];exact Nat.le_refl _)]at this
     rw[this]at h;cases h)
   have HOK:=mh hok;clear hok HH;have HST:RS s w w s (.slice none 0 0) [] []:=⟨rfl,.inr HLast.out,OwnR.nil _ _ _,rfl,fun k hk=>by simp at hk,fun k hk=>by simp at hk,brf _ _⟩;have H0:=mh HST;have HSZ:=mh (show s.size≤16384 by omega);clear HST t0 t1 C1
   go_wp2
   go_loopw [0,5] (fun t v wr=>∃tt dn H,t = .string tt∧tt.size≤s.size∧RS s w wr tt v dn H) (fun t _ _=>strOf t)
   case atStart=>exact⟨s, [], [],rfl,Nat.le_refl _,H0.out⟩
   case round =>
    obtain⟨wo,rfl⟩:∃wo:World,wo=wr:=⟨_,rfl⟩;obtain⟨t,dn,H,rfl,hts,hR⟩:=hrel;have R:=mh hR
    by_cases h0:t.data.toList = []
    ·have t0:t.toList = []:=by rw[ByteArray.toList_eq];exact h0
     obtain⟨p,c,rfl,hn, -, -, -,hrec⟩:=hR.own.cut rfl;have hfin:SplitGive s w (.returned (.tuple #[.slice p H.length c,I O 0])) wo:=by
      have e1:Wo.lns s.data.toList=dn:=by rw[hR.ln,h0];simp[show Wo.lns []=[] from rfl]
      have e2:sLines s=dn.map fun l=>(Wo.wds l).map bs:=by unfold sLines Wo.sList;rw[if_pos HOK.out,e1,List.map_map];rfl
      have e3:(sLines s).length=H.length:=by rw[e2,List.length_map,hR.hl]
      refine⟨p,c,by rw[e3,HOK.out],⟨H,e3.symm,hrec,fun k hk hk' => ?_⟩,fun h=>(hn h).1,hR.below⟩
      have:=hR.rows k hk (by rw[← hR.hl];exact hk)
      simpa [e2] using this
     have HF:=mh hfin;clear hfin hR hn hrec h0
     go_wp2
     go_ret2
     exact HF.out
    ·have t0:¬t.toList = []:=by rw[ByteArray.toList_eq];exact h0
     have t1:t.toList.isEmpty=false:=by cases h:t.toList with|nil=>exact absurd h t0|cons a b=>rfl
     obtain⟨o,ho,hol⟩:=Wo.ix_of_last (hR.nl.resolve_left h0);rw[size_len]at hol;have I1:=mh (fun (W:World)=>by have k:=index10_any t W;rw[ho]at k;exact k);have HO:=mh ho;clear ho h0 hR
     go_wp2_with (first|(go_at_call 82;(with_reducible refine cmo (I1.out _) ?_);rintro e w1 ⟨rfl,hw⟩;obtain rfl:=hw.symm))
     have hl0:(t.extract 0 o).data.toList=t.data.toList.take o:=Lib.extract_from_zero t o;have hl2:(t.extract (o+1) t.size).data.toList=t.data.toList.drop (o+1):=by
      rw[Lib.extract_data,List.take_of_length_le (by rw[List.length_drop,size_len];exact Nat.le_refl _)]
     generalize t.extract 0 o=l0 at *;generalize t.extract (o+1) t.size=t2 at *;have hz2:t2.size<t.size:=by
      have:=size_len t2;rw[hl2,List.length_drop,size_len]at this;omega
     have hz0:l0.size≤16384:=by
      have:=size_len l0;rw[hl0,List.length_take,size_len]at this;have:=HSZ.out;omega
     have HL0:=mh hl0;have HL2:=mh hl2;clear hl0 hl2;have hcase:Lib.indexByte l0.data.toList 35 = -1∨∃m:Nat,Lib.indexByte l0.data.toList 35=(m:Int)∧m<l0.size:=by
      rcases Int.lt_or_le (Lib.indexByte l0.data.toList 35) 0 with hx|hx
      ·left
       have:=Lib.index_ge l0.data.toList [35];rw[Wo.index_one]at this;omega
      ·refine .inr ⟨(Lib.indexByte l0.data.toList 35).toNat,by omega,?_⟩
       have:=(List.getElem?_eq_some_iff.1 (Lib.indexByte_some (o:=(Lib.indexByte l0.data.toList 35).toNat) (show Lib.indexByte l0.data.toList 35=_ by omega)).1).1;rw[size_len]at this;exact this
     have I2:=mh (fun (W:World)=>index35_any l0 W)
     rcases hcase with hi|⟨m,hi,hml⟩
     ·rw[hi]at I2
      have HT:=mh (show l0.data.toList=(t.data.toList.take o).takeWhile (· != 35) by rw[← HL0.out,Wo.takeWhile_none hi]);clear hi;(with_reducible refine cmo (I2.out _) ?_);rintro e w1 ⟨rfl,hw⟩;obtain rfl:=hw.symm
      go_wp2_with fail
      have hlz:l0.size≤16384:=by
       have:=size_len l0;rw[HT.out]at this;have h2:=(List.takeWhile_sublist (l:=t.data.toList.take o) (· != 35)).length_le;rw[List.length_take,size_len]at h2;have:=HSZ.out;omega
      (with_reducible refine cmo (split32_any l0 wo (HW.out.below R.out.below) (by omega)) ?_);rintro e w2 ⟨ws,hws,hwl,rfl,hw2⟩;have HP:=mh (show Recs SB w2 (some ⟨wo.heap.size,0,none⟩) ws by rw[hw2];exact Recs.lit wo 9 ws (by unfold maxLen;omega));have HB2:=mh (show Below wo.heap.size wo w2 by rw[hw2];exact(brf _ _).alloc mle _);have hs2:w2.heap.size=wo.heap.size+1:=by rw[hw2,World.size_alloc]
      have HWs:=mh (words_of ws (t.data.toList.take o) (by rw[hws,HT.out]));have hwl2:ws.length≤16385:=by omega
      clear hw2 hws hwl hlz
      go_wp2
      go_loopw [9,73] (fun v i wr=>∃j:Nat,j≤ws.length∧i=I O j∧OwnR SB wr 9 w2.heap.size v ((ws.take j).filter neB)∧Below w2.heap.size w2 wr) (fun _ i _=>ws.length - (intOf i).toNat)
      case atStart=>exact⟨0,Nat.zero_le _,rfl,OwnR.nil _ _ _,brf _ _⟩
      case round =>
       obtain⟨wi,rfl⟩:∃wi:World,wi=wr:=⟨_,rfl⟩;obtain⟨j,hj,rfl,hO,hb⟩:=hrel;have HO2:=mh hO;have HBi:=mh hb;have hj0:(0:Int)≤(j:Int):=inn _
       by_cases hlt2:j<ws.length
       ·have hj1:(j:Int)<(ws.length:Int):=by omega
        obtain⟨bx,ox,ex, -,hcx⟩:=(HP.out.below hb).word hlt2
        cases ex
        rw[Nat.zero_add]at hcx
        have HS:=mh (show(ws.take (j+1)).filter neB=(ws.take j).filter neB++(if neB ws[j] then [ws[j]] else []) by
         rw[tsg hlt2,List.filter_append,List.filter_cons];simp)
        obtain⟨x,ex⟩:∃x,ws[j]=x:=⟨_,rfl⟩;rw[ex]at HS hcx;have hfl:((ws.take j).filter neB).length≤16385:=Nat.le_trans (List.length_filter_le _ _) (by rw[List.length_take];omega);have hsi:=hb.size;clear ex hO hb
        by_cases hx:x.toList = []
        ·have HS2:=mh (show(ws.take (j+1)).filter neB=(ws.take j).filter neB by rw[HS.out];unfold neB;rw[hx];simp)
         go_wp2
         go_roundw
         case rel=>exact⟨j+1,by omega,by go_num,by rw[HS2.out];exact HO2.out,HBi.out⟩
         case measure=>simp[intOf];omega
        ·have hx2:x.toList.isEmpty=false:=by cases h:x.toList with|nil=>exact absurd h hx|cons a b=>rfl
         have HS2:=mh (show(ws.take (j+1)).filter neB=(ws.take j).filter neB ++ [x] by rw[HS.out];unfold neB;rw[hx2];simp)
         go_wp2_with (first|(at_builtin;(refine OwnR.append el_str rfl (.tmp 79) (.tmp 81) rfl w2.heap.size _ _ x #[.string x] rfl HO2.out rfl rfl hsi (by omega) (by decide) ?_);intro v5 w5 hO5 hap5;rw[← HS2.out]at hO5))
         go_roundw
         case rel=>exact⟨j+1,by omega,by go_num,hO5,HBi.out.trans (hap5.below.mono mle)⟩
         case measure=>simp[intOf];omega
       ·obtain rfl:j=ws.length:=by omega
        rw[List.take_of_length_le mle,HWs.out]at hO;obtain⟨p,c,rfl,hpn,hpx,hle,hcm,hrec⟩:=hO.cut rfl;have hbo:Below wo.heap.size wo wi:=HB2.out.trans (hb.mono (by omega));have hRo:=R.out.own.below hbo;have hdl:=R.out.hl;have hdn:dn.length≤16384:=by
         have h1:=Wo.lns_len s.data.toList;rw[R.out.ln,lap,size_len]at h1;have:=HSZ.out;omega
        have hBw:w.heap.size≤wi.heap.size:=Nat.le_trans R.out.below.size hbo.size;clear hO HO2;obtain⟨L,eL⟩:∃L,(Wo.wds (t.data.toList.take o)).map bs=L:=⟨_,rfl⟩;rw[eL]at hrec hle hpn ⊢;have HEL:=mh eL;have HBo:=mh hbo;have HRo:=mh hRo;have HWA:=mh (show WordsAt wi ⟨p,L.length,c⟩ L from⟨rfl,hrec,fun h=>(hpn h).1,hle⟩);have HPX:=mh (show ∀x,p=some x→wo.heap.size≤x.block∧x.block<wi.heap.size from fun x e=>by have:=hpx x e;omega);have HBI:=mh hb;clear eL hrec hle hpn hpx hbo hRo hb HBi hcm
        go_wp2_with (first|(at_builtin;(refine OwnR.append el_row rfl (.tmp 84) (.tmp 86) rfl w.heap.size _ _ (⟨p,L.length,c⟩:Hd) #[.slice p L.length c] rfl HRo.out rfl rfl hBw (by omega) (by decide) ?_);intro v6 w6 hO6 hap6))
        go_roundw
        case rel=>exact⟨t2,_,_,rfl,by omega,R.out.next HO.out HL2.out HBo.out HEL.out.symm HWA.out HPX.out (by omega) hO6 hap6 (R.out.below.trans ((HBo.out.mono R.out.below.size).trans hap6.below))⟩
        case measure=>simp[strOf];omega
     ·rw[hi]at I2
      have HT:=mh (show(l0.extract 0 m).data.toList=(t.data.toList.take o).takeWhile (· != 35) by rw[Lib.extract_from_zero,← HL0.out,Wo.takeWhile_ix hi]);clear hi;(with_reducible refine cmo (I2.out _) ?_);rintro e w1 ⟨rfl,hw⟩;obtain rfl:=hw.symm
      go_wp2_with fail
      obtain⟨l9,e9⟩:∃x,l0.extract 0 m=x:=⟨_,rfl⟩;rw[e9]at HT ⊢;clear e9;have hlz:l9.size≤16384:=by
       have:=size_len l9;rw[HT.out]at this;have h2:=(List.takeWhile_sublist (l:=t.data.toList.take o) (· != 35)).length_le;rw[List.length_take,size_len]at h2;have:=HSZ.out;omega
      (with_reducible refine cmo (split32_any l9 wo (HW.out.below R.out.below) (by omega)) ?_);rintro e w2 ⟨ws,hws,hwl,rfl,hw2⟩;have HP:=mh (show Recs SB w2 (some ⟨wo.heap.size,0,none⟩) ws by rw[hw2];exact Recs.lit wo 9 ws (by unfold maxLen;omega));have HB2:=mh (show Below wo.heap.size wo w2 by rw[hw2];exact(brf _ _).alloc mle _);have hs2:w2.heap.size=wo.heap.size+1:=by rw[hw2,World.size_alloc]
      have HWs:=mh (words_of ws (t.data.toList.take o) (by rw[hws,HT.out]));have hwl2:ws.length≤16385:=by omega
      clear hw2 hws hwl hlz
      go_wp2
      go_loopw [9,73] (fun v i wr=>∃j:Nat,j≤ws.length∧i=I O j∧OwnR SB wr 9 w2.heap.size v ((ws.take j).filter neB)∧Below w2.heap.size w2 wr) (fun _ i _=>ws.length - (intOf i).toNat)
      case atStart=>exact⟨0,Nat.zero_le _,rfl,OwnR.nil _ _ _,brf _ _⟩
      case round =>
       obtain⟨wi,rfl⟩:∃wi:World,wi=wr:=⟨_,rfl⟩;obtain⟨j,hj,rfl,hO,hb⟩:=hrel;have HO2:=mh hO;have HBi:=mh hb;have hj0:(0:Int)≤(j:Int):=inn _
       by_cases hlt2:j<ws.length
       ·have hj1:(j:Int)<(ws.length:Int):=by omega
        obtain⟨bx,ox,ex, -,hcx⟩:=(HP.out.below hb).word hlt2
        cases ex
        rw[Nat.zero_add]at hcx
        have HS:=mh (show(ws.take (j+1)).filter neB=(ws.take j).filter neB++(if neB ws[j] then [ws[j]] else []) by
         rw[tsg hlt2,List.filter_append,List.filter_cons];simp)
        obtain⟨x,ex⟩:∃x,ws[j]=x:=⟨_,rfl⟩;rw[ex]at HS hcx;have hfl:((ws.take j).filter neB).length≤16385:=Nat.le_trans (List.length_filter_le _ _) (by rw[List.length_take];omega);have hsi:=hb.size;clear ex hO hb
        by_cases hx:x.toList = []
        ·have HS2:=mh (show(ws.take (j+1)).filter neB=(ws.take j).filter neB by rw[HS.out];unfold neB;rw[hx];simp)
         go_wp2
         go_roundw
         case rel=>exact⟨j+1,by omega,by go_num,by rw[HS2.out];exact HO2.out,HBi.out⟩
         case measure=>simp[intOf];omega
        ·have hx2:x.toList.isEmpty=false:=by cases h:x.toList with|nil=>exact absurd h hx|cons a b=>rfl
         have HS2:=mh (show(ws.take (j+1)).filter neB=(ws.take j).filter neB ++ [x] by rw[HS.out];unfold neB;rw[hx2];simp)
         go_wp2_with (first|(at_builtin;(refine OwnR.append el_str rfl (.tmp 79) (.tmp 81) rfl w2.heap.size _ _ x #[.string x] rfl HO2.out rfl rfl hsi (by omega) (by decide) ?_);intro v5 w5 hO5 hap5;rw[← HS2.out]at hO5))
         go_roundw
         case rel=>exact⟨j+1,by omega,by go_num,hO5,HBi.out.trans (hap5.below.mono mle)⟩
         case measure=>simp[intOf];omega
       ·obtain rfl:j=ws.length:=by omega
        rw[List.take_of_length_le mle,HWs.out]at hO;obtain⟨p,c,rfl,hpn,hpx,hle,hcm,hrec⟩:=hO.cut rfl;have hbo:Below wo.heap.size wo wi:=HB2.out.trans (hb.mono (by omega));have hRo:=R.out.own.below hbo;have hdl:=R.out.hl;have hdn:dn.length≤16384:=by
         have h1:=Wo.lns_len s.data.toList;rw[R.out.ln,lap,size_len]at h1;have:=HSZ.out;omega
        have hBw:w.heap.size≤wi.heap.size:=Nat.le_trans R.out.below.size hbo.size;clear hO HO2;obtain⟨L,eL⟩:∃L,(Wo.wds (t.data.toList.take o)).map bs=L:=⟨_,rfl⟩;rw[eL]at hrec hle hpn ⊢;have HEL:=mh eL;have HBo:=mh hbo;have HRo:=mh hRo;have HWA:=mh (show WordsAt wi ⟨p,L.length,c⟩ L from⟨rfl,hrec,fun h=>(hpn h).1,hle⟩);have HPX:=mh (show ∀x,p=some x→wo.heap.size≤x.block∧x.block<wi.heap.size from fun x e=>by have:=hpx x e;omega);have HBI:=mh hb;clear eL hrec hle hpn hpx hbo hRo hb HBi hcm
        go_wp2_with (first|(at_builtin;(refine OwnR.append el_row rfl (.tmp 84) (.tmp 86) rfl w.heap.size _ _ (⟨p,L.length,c⟩:Hd) #[.slice p L.length c] rfl HRo.out rfl rfl hBw (by omega) (by decide) ?_);intro v6 w6 hO6 hap6))
        go_roundw
        case rel=>exact⟨t2,_,_,rfl,by omega,R.out.next HO.out HL2.out HBo.out HEL.out.symm HWA.out HPX.out (by omega) hO6 hap6 (R.out.below.trans ((HBo.out.mono R.out.below.size).trans hap6.below))⟩
        case measure=>simp[strOf];omega
end Go.Proofs.YtbcmabolkkfgfaaGreatDoor
