/- Packed. -/
import Derived.Test.YtbcmabolkkfgfaaGreatDoorQ18
set_option maxRecDepth 100000
set_option maxHeartbeats 16000000
open Go.Value renaming int → I
open Go.IntKind renaming i64 → O
namespace Go.Proofs.YtbcmabolkkfgfaaGreatDoor
open Go.RowKit Te Sc
def jn (ws:List (List UInt8)):ByteArray:=bs (Lib.join ws [32])
theorem jn_head (num:Int)(nm:ByteArray)(least:Int)(D1 D2:ByteArray)(h1:(⟨(Lib.itoa num).toArray⟩:ByteArray)=D1)(h2:(⟨(Lib.itoa least).toArray⟩:ByteArray)=D2):jn [wScheme,Lib.itoa num,nm.data.toList,Lib.itoa least]=((((((⟨#[115,99,104,101,109,101,32]⟩:ByteArray)++D1)++⟨#[32]⟩)++nm)++⟨#[32]⟩)++D2)∧jn [wScheme,Lib.itoa num,nm.data.toList,Lib.itoa least,wEnt]=((((((⟨#[115,99,104,101,109,101,32]⟩:ByteArray)++D1)++⟨#[32]⟩)++nm)++⟨#[32]⟩)++D2)++⟨#[32,101,110,116,105,116,108,101,100]⟩:=by
 subst h1 h2;refine⟨Cr.ba_ext ?_,Cr.ba_ext ?_⟩
 ·show Lib.join _ [32]=_
  simp[Wo.join_two,Lib.join_one,ByteArray.data_append,wScheme]
 ·show Lib.join _ [32]=_
  simp[Wo.join_two,Lib.join_one,ByteArray.data_append,wScheme,wEnt]
theorem jn_cond (t:Tm):jn (wIf::textW t)=(⟨#[105,102,32]⟩:ByteArray)++⟨(tS t).toArray⟩:=by
 obtain⟨x,r,e⟩:∃x r,textW t=x::r:=by cases t;exact⟨_,_,by rw[textW]⟩
 refine Cr.ba_ext ?_
 show Lib.join _ [32]=_
 rw[tS_join,e]
 simp[Wo.join_two,ByteArray.data_append,wIf]
theorem jn_rate (up rate:Int)(D1 D2:ByteArray)(h1:(⟨(Lib.itoa up).toArray⟩:ByteArray)=D1)(h2:(⟨(Lib.itoa rate).toArray⟩:ByteArray)=D2):((((⟨#[114,97,116,101,32]⟩:ByteArray)++D1)++⟨#[32]⟩)++D2)=jn (rateW ⟨up,rate⟩):=by
 subst h1 h2;refine Cr.ba_ext ?_
 show _=Lib.join (rateW ⟨up,rate⟩) [32]
 simp[Wo.join_two,Lib.join_one,ByteArray.data_append,rateW,wRate]
theorem jn_not (n:Int):(⟨#[110,111,116,32]⟩:ByteArray)++⟨(Lib.itoa n).toArray⟩=jn [wNot,Lib.itoa n]:=by
 refine Cr.ba_ext ?_
 show _=Lib.join [wNot,Lib.itoa n] [32]
 simp[Wo.join_two,Lib.join_one,ByteArray.data_append,wNot]
def tRate (s:Sch) (k:Nat):List ByteArray:=(atRate s k).map jn
def tNot (s:Sch) (k:Nat):List ByteArray:=(atNot s k).map jn
def tLaw (L:List Sch) (k:Nat):List ByteArray:=(linesL (L.take k)).map jn
theorem tRate_zero (s:Sch):tRate s 0 = [jn (headW s),jn (wIf::textW s.cond)]:=by unfold tRate;rw[atRate_zero];rfl
theorem tRate_at (s:Sch)(k:Nat)(x:Brk)(h:s.br[k]?=some x):tRate s (k+1)=tRate s k ++ [jn (rateW x)]:=by
 obtain⟨hk,e⟩:=List.getElem?_eq_some_iff.1 h;unfold tRate atRate;rw[take_map_succ rateW s.br k hk,← List.append_assoc,List.map_append,e];rfl
theorem tNot_zero (s:Sch):tNot s 0=tRate s s.br.length:=by unfold tNot;rw[atNot_zero];rfl
theorem tNot_yes (s:Sch)(k:Nat)(h:bitB s.ex (k:Int)=true):tNot s (k+1)=tNot s k ++ [jn [wNot,Lib.itoa (k:Int)]]:=by
 unfold tNot atNot;rw[notsTo_succ,if_pos h,← List.append_assoc,List.map_append];rfl
theorem tNot_no (s:Sch)(k:Nat)(h:bitB s.ex (k:Int)=false):tNot s (k+1)=tNot s k:=by unfold tNot;rw[atNot_no s k h]
theorem tNot_all (s:Sch):tNot s 16=(linesS s).map jn:=by unfold tNot;rw[atNot_all]
theorem tRate_len (s:Sch)(k:Nat):(tRate s k).length≤2+s.br.length:=by
 have:=atRate_len s k;rw[bw_len]at this;unfold tRate;rw[List.length_map];exact this
theorem tNot_len (s:Sch)(k:Nat)(h:k≤16):(tNot s k).length≤18+s.br.length:=by
 have:=atNot_len s k h;rw[bw_len]at this;unfold tNot;rw[List.length_map];exact this
theorem tLaw_succ {L:List Sch}{k:Nat}(hk:k<L.length):tLaw L (k+1)=tLaw L k++(linesS L[k]).map jn:=by
 unfold tLaw linesL;rw[tsg hk,List.flatMap_append,List.map_append]
 simp
theorem tLaw_all (L:List Sch):tLaw L L.length=(linesL L).map jn:=by unfold tLaw;rw[List.take_length]
theorem tLaw_len {L:List Sch}(h:∀s∈L,one17 s=0)(hl:L.length≤16)(k:Nat):(tLaw L k).length≤384:=by
 have h2:=(linesL_len (L.take k) (fun s hs=>h s (List.mem_of_mem_take hs))).2;unfold tLaw;rw[List.length_map];rw[List.length_take]at h2;omega
def cat (X:List ByteArray):List UInt8:=X.flatMap fun x=>x.data.toList ++ [10]
theorem cat_succ (X:List ByteArray)(j:Nat)(h:j<X.length):cat (X.take (j+1))=cat (X.take j)++(X[j].data.toList ++ [10]):=by
 unfold cat;rw[tsg h,List.flatMap_append];simp
theorem cat_le (X:List ByteArray)(j:Nat):(cat (X.take j)).length≤(cat X).length:=by
 have:cat X=cat (X.take j)++cat (X.drop j):=by unfold cat;rw[← List.flatMap_append,List.take_append_drop]
 rw[this,lap];omega
theorem cat_lines (LL:List (List (List UInt8))):cat (LL.map jn)=Wo.jText LL:=by unfold cat Wo.jText;rw[List.flatMap_map];rfl
theorem one_lit (W:World)(x:ByteArray):Recs SB (W.alloc (.cells #[.string x] 9)) (some ⟨W.heap.size,0,none⟩) [x]:=Recs.lit (S:=SB) W 9 [x] (by show 1≤_;unfold maxLen;omega)
theorem two_lit (W:World)(x y:ByteArray):Recs SB (W.alloc (.cells #[.string x,.string y] 9)) (some ⟨W.heap.size,0,none⟩) [x,y]:=Recs.lit (S:=SB) W 9 [x,y] (by show 2≤_;unfold maxLen;omega)
theorem itoa_sz {n:Int}(h0:0≤n)(h1:n≤268435456):(⟨(Lib.itoa n).toArray⟩:ByteArray).size≤9:=itoa_le (k:=9) h0 (by omega) (by omega)
theorem tS_small {t:Tm}(h:chkT t=0):(⟨(tS t).toArray⟩:ByteArray).size≤480:=by
 have h1:=chkT_ok h;have h2:=tS_len t h1.2.2
 show(tS t).length≤480
 omega
structure TX (w wo wr:World) (cs:Array Value) (v:Value) (X:List ByteArray):Prop where
 own:OwnR SB wr 9 w.heap.size v X
 below:Below w.heap.size w wr
 cell:∀i u,cs[i]?=some u→wr.cell? ⟨wo.heap.size,i,none⟩=some u
 lt:wo.heap.size<wr.heap.size
 ap:v.ownBlock≠some wo.heap.size
theorem TX.stp {w wo wr w' : World}{cs:Array Value}{v:Value}{X:List ByteArray}(h:TX w wo wr cs v X)(hb:Below wr.heap.size wr w'):TX w wo w' cs v X :=
 ⟨h.own.below hb,h.below.trans (hb.mono h.below.size),fun i u hu=>(hb.cell (p:=⟨wo.heap.size,i,none⟩) h.lt).trans (h.cell i u hu),nll h.lt hb.size,h.ap⟩
theorem TX.add {w wo wr w5 w6:World}{cs:Array Value}{v v6:Value}{X Y:List ByteArray}(h:TX w wo wr cs v X)(hb:Below wr.heap.size wr w5){G:Nat}(hO:OwnR SB w6 9 w.heap.size v6 (X++Y))(hap:Appends w5 w6 w.heap.size G v v6)(hG:w5.heap.size≤G):TX w wo w6 cs v6 (X++Y):=by
 have h5:=h.stp hb;exact⟨hO,h5.below.trans hap.below,fun i u hu=>(hap.cells h5.lt h5.ap i).trans (h5.cell i u hu),nll h5.lt hap.size,hap.apart hG h5.lt h5.ap⟩
theorem refprint17_any {Q:Nat→Prop}(d:Nat)(p:Option Addr)(L:List Sch)(cap:Nat)(w:World)(h:SsAt Q w d p L)(hz:∀s∈L,s.nm.size≤9223372036854775807)(hcap:L.length≤cap)(hct:∀s∈L,count s.cond≤1099511627776) :
  Calls Tryz.prog 12 #[.slice p L.length cap] w (PrintG17 L w):=by
 have hn:=h.len;have CK:=mh (refcheck17_any d p L cap w h hz hcap hct);unfold ChkG at CK;obtain⟨⟨ci,er⟩,eer⟩:∃x,chk17 L=x:=⟨_,rfl⟩;have eer2:(chk17 L).2=er:=by rw[eer]
 rw[eer]at CK
 by_cases he:er=0
 rotate_left
 ·have HF:=mh (fun (w' : World) (hb:Below w.heap.size w w')=>print17_bad eer2 he w w' hb)
  have hne:(er != 0)=true:=by simpa using he
  clear h hz he eer eer2 hct
  go_enter Tryz.func12,Tryz.ntmps12
  go_wp2_with (first|(go_at_call 10;(with_reducible refine cmo CK.out ?_);rintro e w1 ⟨rfl,hb1⟩))
  go_ret2
  exact HF.out _ hb1
 subst he;have HR:=mh (chk_each eer2);have h16:=(chk_fine eer2).2.1;have HEQ:=mh eer2;have H:=mh h;clear h hz eer eer2 hct
 go_enter Tryz.func12,Tryz.ntmps12
 go_wp2_with (first|(go_at_call 10;(with_reducible refine cmo CK.out ?_);rintro e w1 ⟨rfl,hb1⟩))
 have HB1:=mh hb1;clear hb1
 go_loopw [6,28] (fun v i wr=>∃k:Nat,k≤L.length∧i=I O k∧OwnR SB wr 9 w.heap.size v (tLaw L k)∧Below w.heap.size w wr) (fun _ i _=>L.length - (intOf i).toNat)
 case atStart=>exact⟨0,Nat.zero_le _,rfl,OwnR.nil _ _ _,HB1.out⟩
 case round =>
  obtain⟨wo,rfl⟩:∃wo:World,wo=wr:=⟨_,rfl⟩;obtain⟨k,hk,rfl,hO,hb⟩:=hrel;have hk0:(0:Int)≤(k:Int):=inn _
  by_cases hlt:k<L.length
  ·have hk1:(k:Int)<(L.length:Int):=by omega
   obtain⟨b,off,r,rfl,hbl0,hC0,hv⟩:=H.out.at hlt;have hC:=hC0.below hb hbl0;have hbl:=nll hbl0 hb.size;clear hC0 hbl0;have hone:=HR.out _ (List.getElem_mem hlt);obtain⟨p1,p2,p3,p4,p5,p6, -,p8⟩:=one_parts hone;have HS:=mh (tLaw_succ hlt);have hXl:=tLaw_len HR.out h16 k;obtain⟨s,es⟩:∃s,L[k]=s:=⟨_,rfl⟩;rw[es]at hv p1 p2 p3 p4 p5 p6 p8 HS;have hWB:Below wo.heap.size wo (wo.alloc (.cells (sCells r).toArray 31)):=(brf _ _).alloc mle _;have PT:=mh (fun (W:World) (hW:Below w.heap.size w W)=>refprint16_any d r.t s.cond W (hv.below hW).t p5);have HBR:=mh hv.br;have BEA:=mh (br_each p6);have hbl6:=brB_len p6;have HBN:=hv.bn;have hnz:r.nm.size≤12:=by have:=(Cr.name_word p8).2;rw[← hv.nm,size_len]at this;exact this
   have hTZ:=tS_small p5;have JH:=jn_head s.num s.nm s.least;have EH:=mh (show headW s = [wScheme,Lib.itoa s.num,s.nm.data.toList,Lib.itoa s.least]++(if s.needs then [wEnt] else []) from rfl);have EC:=mh (jn_cond s.cond);have HT0:=mh (tRate_zero s);have HTR:=mh (fun j x hx=>tRate_at s j x hx);have HTL:=mh (fun j=>tRate_len s j);have HN0:=mh (tNot_zero s);have HNY:=mh (fun j hj=>tNot_yes s j hj);have HNN:=mh (fun j hj=>tNot_no s j hj);have HNA:=mh (tNot_all s);have HNL:=mh (fun j hj=>tNot_len s j hj);have HOW:=mh hO;have HBO:=mh hb;have hsz0:w.heap.size≤wo.heap.size:=hb.size;obtain⟨c0,c1,c2,c3,c4,c5,c6,c7,c8,c9⟩:=hC;have q1:=hv.num;have q2:=hv.nm;have q3:=hv.least;have q4:=hv.ex;have q5:=hv.needs;rw[← q1]at p1 p2 JH EH;rw[← q2]at JH EH;rw[← q3]at p3 p4 JH EH;rw[← q4]at HNY HNN;rw[← q5]at EH;obtain⟨TS,eTS⟩:∃x:ByteArray,(⟨(tS s.cond).toArray⟩:ByteArray)=x:=⟨_,rfl⟩;unfold PrintTG at PT;rw[eTS]at hTZ EC PT;obtain⟨JC,eJC⟩:∃x,jn (wIf::textW s.cond)=x:=⟨_,rfl⟩;obtain⟨HW,eHW⟩:∃x,headW s=x:=⟨_,rfl⟩;rw[eJC,eHW]at HT0;rw[eJC]at EC;rw[eHW]at EH;obtain⟨br,ebr⟩:∃x,s.br=x:=⟨_,rfl⟩;obtain⟨TR,eTR⟩:∃x,tRate s=x:=⟨_,rfl⟩;obtain⟨TN,eTN⟩:∃x,tNot s=x:=⟨_,rfl⟩;obtain⟨X0,eX0⟩:∃x,tLaw L k=x:=⟨_,rfl⟩;simp only[eTR,eTN,ebr]at HT0 HTR HTL HN0 HNY HNN HNA HNL;rw[ebr]at HBR HBN BEA hbl6;rw[eX0]at HOW hXl HS;rw[← HNA.out]at HS;clear hO hb hv hone es q1 q2 q3 q4 q5 p5 p6 p8 eTS eJC eHW ebr eTR eTN eX0 HNA;obtain⟨num,nm,⟨o,tn,tm,tp,tl,tc⟩,bp,bn,bc,least,ex,needs⟩:=r;simp only at c0 c1 c2 c3 c4 c5 c6 c7 c8 c9 p1 p2 p3 p4 JH EH HNY HNN HBN hnz HBR PT;simp only[sCells]at hWB;subst HBN;have hblen:=HBR.out.len;obtain⟨D1,eD1⟩:∃D:ByteArray,(⟨(Lib.itoa num).toArray⟩:ByteArray)=D:=⟨_,rfl⟩;obtain⟨D2,eD2⟩:∃D:ByteArray,(⟨(Lib.itoa least).toArray⟩:ByteArray)=D:=⟨_,rfl⟩;have hz1:D1.size≤9:=eD1▸itoa_sz p1 (by omega);have hz2:D2.size≤9:=eD2▸itoa_sz p3 p4;have DE1:=mh (fun (W:World)=>show Calls Tryz.prog 24 #[I O num] W (fun e w' => e = .returned (.string D1)∧Below W.heap.size W w') from eD1▸refdecimal_any (num.natAbs+1) num W (by omega) (by omega) (by omega));have DE2:=mh (fun (W:World)=>show Calls Tryz.prog 24 #[I O least] W (fun e w' => e = .returned (.string D2)∧Below W.heap.size W w') from eD2▸refdecimal_any (least.natAbs+1) least W (by omega) (by omega) (by omega));have JH2:=mh (JH D1 D2 eD1 eD2);obtain⟨XH,hX⟩:∃XH:ByteArray,((((((⟨#[115,99,104,101,109,101,32]⟩:ByteArray)++D1)++⟨#[32]⟩)++nm)++⟨#[32]⟩)++D2)=XH:=⟨_,rfl⟩;rw[hX]at JH2;have hXz:XH.size≤100:=by rw[← hX];simp only[ByteArray.size_append];have e1:(⟨#[115,99,104,101,109,101,32]⟩:ByteArray).size=7:=rfl;have e2:(⟨#[32]⟩:ByteArray).size=1:=rfl;omega
   obtain⟨W1,eW1⟩:∃W:World,W=wo.alloc (.cells #[I O num,.string nm,I O o,I O tn,I O tm,.slice tp tl tc,.slice bp br.length bc,I O least,I O ex,.bool needs] 31):=⟨_,rfl⟩;have HS1:=mh (show wo.heap.size<W1.heap.size by rw[eW1];simp);have KC:=mh (fun (W:World) (hb:Below W1.heap.size W1 W) i u (hu:(#[I O num,.string nm,I O o,I O tn,I O tm,.slice tp tl tc,.slice bp br.length bc,I O least,I O ex,.bool needs]:Array Value)[i]?=some u)=>show W.cell? ⟨wo.heap.size,i,none⟩=some u from(hb.cell (p:=⟨wo.heap.size,i,none⟩) HS1.out).trans (by rw[eW1];exact(cwn _ _ _ _).trans hu));have KR:=mh (fun (W:World) (hb:Below W1.heap.size W1 W)=>show W.cell? ⟨wo.heap.size,0,none⟩=some (I O num)∧W.cell? ⟨wo.heap.size,1,none⟩=some (.string nm)∧W.cell? ⟨wo.heap.size,7,none⟩=some (I O least) from⟨KC.out W hb 0 _ rfl,KC.out W hb 1 _ rfl,KC.out W hb 7 _ rfl⟩);have KT:=mh (fun (W:World) (hb:Below W1.heap.size W1 W)=>show W.cell? ⟨wo.heap.size,2,none⟩=some (I O o)∧W.cell? ⟨wo.heap.size,3,none⟩=some (I O tn)∧W.cell? ⟨wo.heap.size,4,none⟩=some (I O tm)∧W.cell? ⟨wo.heap.size,5,none⟩=some (.slice tp tl tc)∧W.cell? ⟨wo.heap.size,6,none⟩=some (.slice bp br.length bc)∧W.cell? ⟨wo.heap.size,8,none⟩=some (I O ex)∧W.cell? ⟨wo.heap.size,9,none⟩=some (.bool needs) from⟨KC.out W hb 2 _ rfl,KC.out W hb 3 _ rfl,KC.out W hb 4 _ rfl,KC.out W hb 5 _ rfl,KC.out W hb 6 _ rfl,KC.out W hb 8 _ rfl,KC.out W hb 9 _ rfl⟩);have HW1:=mh (show Below wo.heap.size wo W1 from by rw[eW1];exact hWB);have TX1:=mh (show TX w wo W1 #[I O num,.string nm,I O o,I O tn,I O tm,.slice tp tl tc,.slice bp br.length bc,I O least,I O ex,.bool needs] _ X0 from⟨HOW.out.below HW1.out,HBO.out.trans (HW1.out.mono hsz0),KC.out _ (brf _ _),HS1.out,HOW.out.away mle⟩);have hsz1:w.heap.size≤W1.heap.size:=Nat.le_trans hsz0 HW1.out.size;have K0:Below W1.heap.size W1 W1:=brf _ _;have K0d:Below W1.heap.size W1 W1.drew:=K0.drew;have z1a:¬9223372036854775807<7+D1.size:=by omega
   have z1b:7+D1.size≤9223372036854775807:=by omega
   have z2a:¬9223372036854775807<7+D1.size+1:=by omega
   have z2b:7+D1.size+1≤9223372036854775807:=by omega
   have z2c:¬9223372036854775807≤7+D1.size:=by omega
   have z2d:7+D1.size<9223372036854775807:=by omega
   have z3a:¬9223372036854775807<7+D1.size+1+nm.size:=by omega
   have z3b:7+D1.size+1+nm.size≤9223372036854775807:=by omega
   have z4a:¬9223372036854775807<7+D1.size+1+nm.size+1:=by omega
   have z4b:7+D1.size+1+nm.size+1≤9223372036854775807:=by omega
   have z4c:¬9223372036854775807≤7+D1.size+1+nm.size:=by omega
   have z4d:7+D1.size+1+nm.size<9223372036854775807:=by omega
   have z5a:¬9223372036854775807<7+D1.size+1+nm.size+1+D2.size:=by omega
   have z5b:7+D1.size+1+nm.size+1+D2.size≤9223372036854775807:=by omega
   clear hWB p1 p2 p3 p4 JH eD1 eD2 hz1 hz2 hnz
   go_wp2_with fail
   rw[← eW1];clear eW1 c0 c1 c2 c3 c4 c5 c6 c7 c8 c9 hbl
   go_region_held3 (fun W=>W.cell? ⟨wo.heap.size,0,none⟩=some (I O num)∧W.cell? ⟨wo.heap.size,1,none⟩=some (.string nm)∧W.cell? ⟨wo.heap.size,7,none⟩=some (I O least))
    (first|exact KR.out _ K0|exact KR.out _ K0d|exact KR.out _ K5|exact KR.out _ K6|fail)
    (first
     | (go_at_call 24;(with_reducible refine cmo (DE1.out _) ?_);rintro e w5 ⟨rfl,hb5⟩;have K5:Below W1.heap.size W1 w5:=(by first|exact bstep mle K0d hb5|exact bstep mle K0 hb5))
     | (go_at_call 24;(with_reducible refine cmo (DE2.out _) ?_);rintro e w6 ⟨rfl,hb6⟩;have K6:Below W1.heap.size W1 w6:=bstep mle K5 hb6)
     | fail)
   clear z1a z1b z2a z2b z2c z2d z3a z3b z4a z4b z4c z4d z5a z5b hX;have HK6:=mh K6;obtain⟨k2,k3,k4,k5,k6,k8,k9⟩:=KT.out _ K6;have PT6:=mh (PT.out w6 (TX1.out.stp K6).below);have m1:¬9223372036854775807<XH.size+9:=by omega
   have m2:XH.size+9≤9223372036854775807:=by omega
   have m3:¬9223372036854775807<3+TS.size:=by omega
   have m4:3+TS.size≤9223372036854775807:=by omega
   clear K5 K6 hb5 hb6 K0 K0d
   cases needs
   ·have EHJ:=mh (show XH=jn HW from by rw[EH.out];exact JH2.out.1.symm)
    go_wp2_with (first
     | (go_at_call 35;(with_reducible refine cmo PT6.out ?_);rintro e w8 ⟨rfl,hb8⟩;have HK8:=mh (bstep mle HK6.out hb8);have Y8:=two_lit w8 (XH) ((⟨#[105,102,32]⟩:ByteArray)++TS);have A8:=mh (balloc mle HK8.out (.cells #[.string (XH),.string ((⟨#[105,102,32]⟩:ByteArray)++TS)] 9));clear hb8 k2 k3 k4 k5 k6 k8 k9)
     | (at_builtin;(refine OwnR.appendAll el_str rfl (.tmp 55) (.tmp 59) rfl w.heap.size _ X0 [XH,(⟨#[105,102,32]⟩:ByteArray)++TS] (some ⟨w8.heap.size,0,none⟩) 2 2 rfl (TX1.out.stp A8.out).own Y8 (fun h=>by cases h) rfl (by first|rfl|simp[Act.eval,Act.put]) (Nat.le_trans hsz1 A8.out.size) (by omega) (by decide) ?_);intro v9 w9 hO9 hap9;have X9:=mh (show TX w wo w9 #[I O num,.string nm,I O o,I O tn,I O tm,.slice tp tl tc,.slice bp br.length bc,I O least,I O ex,.bool false] v9 (X0++TR 0) from by rw[HT0.out,EC.out,← EHJ.out];exact TX1.out.add A8.out hO9 hap9 mle);have k6:=X9.out.cell 6 _ rfl;clear hO9 hap9)
     | fail)
    clear k6
    go_loopw [6,64] (fun v i wr=>∃j:Nat,j≤br.length∧i=I O j∧TX w wo wr #[I O num,.string nm,I O o,I O tn,I O tm,.slice tp tl tc,.slice bp br.length bc,I O least,I O ex,.bool false] v (X0++TR j)) (fun _ i _=>br.length - (intOf i).toNat)
    case atStart=>exact⟨0,Nat.zero_le _,rfl,X9.out⟩
    case round =>
     obtain⟨wi,rfl⟩:∃wi:World,wi=wr:=⟨_,rfl⟩;obtain⟨j,hj,rfl,hX⟩:=hrel;have hj0:(0:Int)≤(j:Int):=inn _;have HXX:=mh hX;have hXl2:(X0++TR j).length≤400:=by rw[lap];have:=HTL.out j;omega
     have hszi:w.heap.size≤wi.heap.size:=hX.below.size
     by_cases hjl:j<br.length
     ·have hj1:(j:Int)<(br.length:Int):=by omega
      obtain⟨b', off', x,rfl,hbl,x0,x1,hx⟩:=SBk_at (HBR.out.below hX.below) hjl;have HTx:=mh (HTR.out j x (by rw[List.getElem?_eq_getElem hjl,hx.out]));have hxb:=BEA.out x (by rw[← hx.out];exact List.getElem_mem hjl);obtain⟨up,rate⟩:=x;simp only at x0 x1 hxb;obtain⟨u0,u1,u2,u3⟩:=hxb;obtain⟨D3,eD3⟩:∃D:ByteArray,(⟨(Lib.itoa up).toArray⟩:ByteArray)=D:=⟨_,rfl⟩;obtain⟨D4,eD4⟩:∃D:ByteArray,(⟨(Lib.itoa rate).toArray⟩:ByteArray)=D:=⟨_,rfl⟩;have hz3:D3.size≤9:=eD3▸itoa_sz u0 u1;have hz4:D4.size≤9:=eD4▸itoa_sz u2 (by omega);have DE3:=mh (fun (W:World)=>show Calls Tryz.prog 24 #[I O up] W (fun e w' => e = .returned (.string D3)∧Below W.heap.size W w') from eD3▸refdecimal_any (up.natAbs+1) up W (by omega) (by omega) (by omega));have DE4:=mh (fun (W:World)=>show Calls Tryz.prog 24 #[I O rate] W (fun e w' => e = .returned (.string D4)∧Below W.heap.size W w') from eD4▸refdecimal_any (rate.natAbs+1) rate W (by omega) (by omega) (by omega));obtain⟨XR,hXR⟩:∃XR:ByteArray,((((⟨#[114,97,116,101,32]⟩:ByteArray)++D3)++⟨#[32]⟩)++D4)=XR:=⟨_,rfl⟩;have JR:=mh (show XR=jn (rateW ⟨up,rate⟩) from hXR▸jn_rate up rate D3 D4 eD3 eD4)
      have KX:=mh (fun (W:World) (hb:Below (wi.heap.size+1) (wi.alloc (.cells #[I O up,I O rate] 54)) W)=>show W.cell? ⟨wi.heap.size,0,none⟩=some (I O up)∧W.cell? ⟨wi.heap.size,1,none⟩=some (I O rate) from
       ⟨(hb.cell (p:=⟨wi.heap.size,0,none⟩) (Nat.lt_succ_self _)).trans (cwn _ _ _ _),(hb.cell (p:=⟨wi.heap.size,1,none⟩) (Nat.lt_succ_self _)).trans (cwn _ _ _ _)⟩)
      have HWB:=mh (show Below wi.heap.size wi (wi.alloc (.cells #[I O up,I O rate] 54)) from(brf _ _).alloc mle _);have K0:Below (wi.heap.size+1) (wi.alloc (.cells #[I O up,I O rate] 54)) (wi.alloc (.cells #[I O up,I O rate] 54)):=brf _ _;have K0d:Below (wi.heap.size+1) (wi.alloc (.cells #[I O up,I O rate] 54)) (wi.alloc (.cells #[I O up,I O rate] 54)).drew:=K0.drew;have r1a:¬9223372036854775807<5+D3.size:=by omega
      have r1b:5+D3.size≤9223372036854775807:=by omega
      have r2a:¬9223372036854775807<5+D3.size+1:=by omega
      have r2b:5+D3.size+1≤9223372036854775807:=by omega
      have r2c:¬9223372036854775807≤5+D3.size:=by omega
      have r2d:5+D3.size<9223372036854775807:=by omega
      have r3a:¬9223372036854775807<5+D3.size+1+D4.size:=by omega
      have r3b:5+D3.size+1+D4.size≤9223372036854775807:=by omega
      clear hX u0 u1 u2 u3 hx eD3 eD4 hz3 hz4
      go_wp2_with fail
      clear x0 x1 hbl
      go_region_held3 (fun W=>W.cell? ⟨wi.heap.size,0,none⟩=some (I O up)∧W.cell? ⟨wi.heap.size,1,none⟩=some (I O rate))
       (first|exact KX.out _ K0|exact KX.out _ K0d|exact KX.out _ K5|exact KX.out _ K6|exact KX.out _ K8|exact⟨(C7 0).trans (KX.out _ K8).1,(C7 1).trans (KX.out _ K8).2⟩|fail)
       (first
        | (go_at_call 24;(with_reducible refine cmo (DE3.out _) ?_);rintro e wa ⟨rfl,hba⟩;have K5:Below (wi.heap.size+1) (wi.alloc (.cells #[I O up,I O rate] 54)) wa:=(by first|exact K0d.trans (hba.mono (by simp))|exact K0.trans (hba.mono (by simp))))
        | (go_at_call 24;(with_reducible refine cmo (DE4.out _) ?_);rintro e wb ⟨rfl,hbb⟩;have K6:Below (wi.heap.size+1) (wi.alloc (.cells #[I O up,I O rate] 54)) wb:=K5.trans (hbb.mono (bl1 K5));have K8:Below (wi.heap.size+1) (wi.alloc (.cells #[I O up,I O rate] 54)) (wb.alloc (.cells #[.string XR] 9)):=K6.alloc (bl1 K6) _;have A8x:=HWB.out.trans (K8.mono (Nat.le_succ _));have Y8x:=one_lit wb XR)
        | (refine OwnR.stepAp el_str (by rfl) (.tmp 68) (.tmp 78) (by rfl) w.heap.size _ (X0++TR j) [XR] (some ⟨wb.heap.size,0,none⟩) 1 1 rfl (HXX.out.own.below A8x) Y8x (fun h=>by cases h) (by rfl) (by rfl) (Nat.le_trans hszi A8x.size) (by omega) (by decide) ?_;intro v7 w7 hO7 hap7;have C7:=hap7.cells (b:=wi.heap.size) (nll (Nat.lt_succ_self _) (bl1 K8)) (HXX.out.own.away mle))|fail)
      have LN:=mh (show TX w wo w7 _ v7 (X0++TR (j+1)) from by rw[HTx.out,← List.append_assoc,← JR.out];exact HXX.out.add A8x hO7 hap7 mle);clear hXR r1a r1b r2a r2b r2c r2d r3a r3b
      go_wp2
      go_roundw
      case rel=>exact⟨j+1,by omega,by go_num,LN.out⟩
      case measure=>simp[intOf];omega
     ·obtain rfl:j=br.length:=by omega
      clear hX
      go_wp2
      go_loopw [6,14] (fun v i wr=>∃n:Nat,n≤16∧i=I O n∧TX w wo wr #[I O num,.string nm,I O o,I O tn,I O tm,.slice tp tl tc,.slice bp br.length bc,I O least,I O ex,.bool false] v (X0++TN n)) (fun _ i _=>16 - (intOf i).toNat)
      case atStart=>exact⟨0,Nat.zero_le _,rfl,by rw[HN0.out];exact HXX.out⟩
      case round =>
       obtain⟨wj,rfl⟩:∃wj:World,wj=wr:=⟨_,rfl⟩;obtain⟨n,hn,rfl,hM⟩:=hrel;have HMB:=mh hM;have g8:=hM.cell 8 _ rfl;have hMl:(X0++TN n).length≤420:=by rw[lap];have h2:=HNL.out n hn;omega
       have hsz2:w.heap.size≤wj.heap.size:=hM.below.size;obtain⟨i,ei⟩:∃i:Int,(n:Int)=i:=⟨_,rfl⟩;have EI:=mh ei;have hi0:(0:Int)≤i:=by omega
       rw[ei];clear hM
       by_cases hlt2:n<16
       ·have hi1:i<16:=by omega
        have hi2:i≤15:=by omega
        cases eb:bitB ex i
        ·have EB:(bits BinOp.and IntKind.i64 (ex / 2 ^ i.toNat) 1==1)=false:=by rw[bit_one,eb]
         have HM2:=mh (show TX w wo wj #[I O num,.string nm,I O o,I O tn,I O tm,.slice tp tl tc,.slice bp br.length bc,I O least,I O ex,.bool false] _ (X0++TN (n+1)) from by rw[HNN.out n (by rw[EI.out];exact eb)];exact HMB.out);clear eb ei
         go_wp2
         go_roundw
         case rel=>exact⟨n+1,by omega,by rw[← EI.out];go_num,HM2.out⟩
         case measure=>rw[← EI.out];simp[intOf];omega
        ·have EB:(bits BinOp.and IntKind.i64 (ex / 2 ^ i.toNat) 1==1)=true:=by rw[bit_one,eb]
         have HXn:=mh (HNY.out n (by rw[EI.out];exact eb));obtain⟨D5,eD5⟩:∃D:ByteArray,(⟨(Lib.itoa i).toArray⟩:ByteArray)=D:=⟨_,rfl⟩;have hz5:D5.size≤9:=eD5▸itoa_sz hi0 (by omega);have DE5:=mh (fun (W:World)=>show Calls Tryz.prog 24 #[I O i] W (fun e w' => e = .returned (.string D5)∧Below W.heap.size W w') from eD5▸refdecimal_any (i.natAbs+1) i W (by omega) (by omega) (by omega));have JN5:=mh (show(⟨#[110,111,116,32]⟩:ByteArray)++D5=jn [wNot,Lib.itoa i] from eD5▸jn_not i);have n1:¬9223372036854775807<4+D5.size:=by omega
         have n2:4+D5.size≤9223372036854775807:=by omega
         clear eb ei eD5 hz5
         go_wp2_with (first
          | (go_at_call 24;(with_reducible refine cmo (DE5.out _) ?_);rintro e wa ⟨rfl,hba⟩;have Y8x:=mh (one_lit wa ((⟨#[110,111,116,32]⟩:ByteArray)++D5));have A8x:=mh (hba.alloc hba.size (.cells #[.string ((⟨#[110,111,116,32]⟩:ByteArray)++D5)] 9));clear hba)
          | (at_builtin;(refine OwnR.appendAll el_str rfl (.tmp 91) (.tmp 95) rfl w.heap.size _ (X0++TN n) [(⟨#[110,111,116,32]⟩:ByteArray)++D5] (some ⟨wa.heap.size,0,none⟩) 1 1 rfl (HMB.out.own.below A8x.out) Y8x.out (fun h=>by cases h) rfl (by first|rfl|simp[Act.eval,Act.put]) (Nat.le_trans hsz2 A8x.out.size) (by omega) (by decide) ?_);intro v7 w7 hO7 hap7;have LN:=mh (show TX w wo w7 #[I O num,.string nm,I O o,I O tn,I O tm,.slice tp tl tc,.slice bp br.length bc,I O least,I O ex,.bool false] v7 (X0++TN (n+1)) from by rw[HXn.out,← List.append_assoc,EI.out,← JN5.out];exact HMB.out.add A8x.out hO7 hap7 mle);clear hO7 hap7)
          | fail)
         go_roundw
         case rel=>exact⟨n+1,by omega,by rw[← EI.out];go_num,LN.out⟩
         case measure=>rw[← EI.out];simp[intOf];omega
       ·obtain rfl:n=16:=by omega
        have hi1:i=16:=ei.symm;clear ei;subst hi1
        go_wp2
        go_roundw
        case rel=>exact⟨k+1,by omega,by go_num,by rw[HS.out];exact HMB.out.own,HMB.out.below⟩
        case measure=>simp[intOf];omega
   ·have EHJ:=mh (show XH++⟨#[32,101,110,116,105,116,108,101,100]⟩=jn HW from by rw[EH.out];exact JH2.out.2.symm)
    go_wp2_with (first
     | (go_at_call 35;(with_reducible refine cmo PT6.out ?_);rintro e w8 ⟨rfl,hb8⟩;have HK8:=mh (bstep mle HK6.out hb8);have Y8:=two_lit w8 (XH++⟨#[32,101,110,116,105,116,108,101,100]⟩) ((⟨#[105,102,32]⟩:ByteArray)++TS);have A8:=mh (balloc mle HK8.out (.cells #[.string (XH++⟨#[32,101,110,116,105,116,108,101,100]⟩),.string ((⟨#[105,102,32]⟩:ByteArray)++TS)] 9));clear hb8 k2 k3 k4 k5 k6 k8 k9)
     | (at_builtin;(refine OwnR.appendAll el_str rfl (.tmp 55) (.tmp 59) rfl w.heap.size _ X0 [XH++⟨#[32,101,110,116,105,116,108,101,100]⟩,(⟨#[105,102,32]⟩:ByteArray)++TS] (some ⟨w8.heap.size,0,none⟩) 2 2 rfl (TX1.out.stp A8.out).own Y8 (fun h=>by cases h) rfl (by first|rfl|simp[Act.eval,Act.put]) (Nat.le_trans hsz1 A8.out.size) (by omega) (by decide) ?_);intro v9 w9 hO9 hap9;have X9:=mh (show TX w wo w9 #[I O num,.string nm,I O o,I O tn,I O tm,.slice tp tl tc,.slice bp br.length bc,I O least,I O ex,.bool true] v9 (X0++TR 0) from by rw[HT0.out,EC.out,← EHJ.out];exact TX1.out.add A8.out hO9 hap9 mle);have k6:=X9.out.cell 6 _ rfl;clear hO9 hap9)
     | fail)
    clear k6
    go_loopw [6,64] (fun v i wr=>∃j:Nat,j≤br.length∧i=I O j∧TX w wo wr #[I O num,.string nm,I O o,I O tn,I O tm,.slice tp tl tc,.slice bp br.length bc,I O least,I O ex,.bool true] v (X0++TR j)) (fun _ i _=>br.length - (intOf i).toNat)
    case atStart=>exact⟨0,Nat.zero_le _,rfl,X9.out⟩
    case round =>
     obtain⟨wi,rfl⟩:∃wi:World,wi=wr:=⟨_,rfl⟩;obtain⟨j,hj,rfl,hX⟩:=hrel;have hj0:(0:Int)≤(j:Int):=inn _;have HXX:=mh hX;have hXl2:(X0++TR j).length≤400:=by rw[lap];have:=HTL.out j;omega
     have hszi:w.heap.size≤wi.heap.size:=hX.below.size
     by_cases hjl:j<br.length
     ·have hj1:(j:Int)<(br.length:Int):=by omega
      obtain⟨b', off', x,rfl,hbl,x0,x1,hx⟩:=SBk_at (HBR.out.below hX.below) hjl;have HTx:=mh (HTR.out j x (by rw[List.getElem?_eq_getElem hjl,hx.out]));have hxb:=BEA.out x (by rw[← hx.out];exact List.getElem_mem hjl);obtain⟨up,rate⟩:=x;simp only at x0 x1 hxb;obtain⟨u0,u1,u2,u3⟩:=hxb;obtain⟨D3,eD3⟩:∃D:ByteArray,(⟨(Lib.itoa up).toArray⟩:ByteArray)=D:=⟨_,rfl⟩;obtain⟨D4,eD4⟩:∃D:ByteArray,(⟨(Lib.itoa rate).toArray⟩:ByteArray)=D:=⟨_,rfl⟩;have hz3:D3.size≤9:=eD3▸itoa_sz u0 u1;have hz4:D4.size≤9:=eD4▸itoa_sz u2 (by omega);have DE3:=mh (fun (W:World)=>show Calls Tryz.prog 24 #[I O up] W (fun e w' => e = .returned (.string D3)∧Below W.heap.size W w') from eD3▸refdecimal_any (up.natAbs+1) up W (by omega) (by omega) (by omega));have DE4:=mh (fun (W:World)=>show Calls Tryz.prog 24 #[I O rate] W (fun e w' => e = .returned (.string D4)∧Below W.heap.size W w') from eD4▸refdecimal_any (rate.natAbs+1) rate W (by omega) (by omega) (by omega));obtain⟨XR,hXR⟩:∃XR:ByteArray,((((⟨#[114,97,116,101,32]⟩:ByteArray)++D3)++⟨#[32]⟩)++D4)=XR:=⟨_,rfl⟩;have JR:=mh (show XR=jn (rateW ⟨up,rate⟩) from hXR▸jn_rate up rate D3 D4 eD3 eD4)
      have KX:=mh (fun (W:World) (hb:Below (wi.heap.size+1) (wi.alloc (.cells #[I O up,I O rate] 54)) W)=>show W.cell? ⟨wi.heap.size,0,none⟩=some (I O up)∧W.cell? ⟨wi.heap.size,1,none⟩=some (I O rate) from
       ⟨(hb.cell (p:=⟨wi.heap.size,0,none⟩) (Nat.lt_succ_self _)).trans (cwn _ _ _ _),(hb.cell (p:=⟨wi.heap.size,1,none⟩) (Nat.lt_succ_self _)).trans (cwn _ _ _ _)⟩)
      have HWB:=mh (show Below wi.heap.size wi (wi.alloc (.cells #[I O up,I O rate] 54)) from(brf _ _).alloc mle _);have K0:Below (wi.heap.size+1) (wi.alloc (.cells #[I O up,I O rate] 54)) (wi.alloc (.cells #[I O up,I O rate] 54)):=brf _ _;have K0d:Below (wi.heap.size+1) (wi.alloc (.cells #[I O up,I O rate] 54)) (wi.alloc (.cells #[I O up,I O rate] 54)).drew:=K0.drew;have r1a:¬9223372036854775807<5+D3.size:=by omega
      have r1b:5+D3.size≤9223372036854775807:=by omega
      have r2a:¬9223372036854775807<5+D3.size+1:=by omega
      have r2b:5+D3.size+1≤9223372036854775807:=by omega
      have r2c:¬9223372036854775807≤5+D3.size:=by omega
      have r2d:5+D3.size<9223372036854775807:=by omega
      have r3a:¬9223372036854775807<5+D3.size+1+D4.size:=by omega
      have r3b:5+D3.size+1+D4.size≤9223372036854775807:=by omega
      clear hX u0 u1 u2 u3 hx eD3 eD4 hz3 hz4
      go_wp2_with fail
      clear x0 x1 hbl
      go_region_held3 (fun W=>W.cell? ⟨wi.heap.size,0,none⟩=some (I O up)∧W.cell? ⟨wi.heap.size,1,none⟩=some (I O rate))
       (first|exact KX.out _ K0|exact KX.out _ K0d|exact KX.out _ K5|exact KX.out _ K6|exact KX.out _ K8|exact⟨(C7 0).trans (KX.out _ K8).1,(C7 1).trans (KX.out _ K8).2⟩|fail)
       (first
        | (go_at_call 24;(with_reducible refine cmo (DE3.out _) ?_);rintro e wa ⟨rfl,hba⟩;have K5:Below (wi.heap.size+1) (wi.alloc (.cells #[I O up,I O rate] 54)) wa:=(by first|exact K0d.trans (hba.mono (by simp))|exact K0.trans (hba.mono (by simp))))
        | (go_at_call 24;(with_reducible refine cmo (DE4.out _) ?_);rintro e wb ⟨rfl,hbb⟩;have K6:Below (wi.heap.size+1) (wi.alloc (.cells #[I O up,I O rate] 54)) wb:=K5.trans (hbb.mono (bl1 K5));have K8:Below (wi.heap.size+1) (wi.alloc (.cells #[I O up,I O rate] 54)) (wb.alloc (.cells #[.string XR] 9)):=K6.alloc (bl1 K6) _;have A8x:=HWB.out.trans (K8.mono (Nat.le_succ _));have Y8x:=one_lit wb XR)
        | (refine OwnR.stepAp el_str (by rfl) (.tmp 68) (.tmp 78) (by rfl) w.heap.size _ (X0++TR j) [XR] (some ⟨wb.heap.size,0,none⟩) 1 1 rfl (HXX.out.own.below A8x) Y8x (fun h=>by cases h) (by rfl) (by rfl) (Nat.le_trans hszi A8x.size) (by omega) (by decide) ?_;intro v7 w7 hO7 hap7;have C7:=hap7.cells (b:=wi.heap.size) (nll (Nat.lt_succ_self _) (bl1 K8)) (HXX.out.own.away mle))|fail)
      have LN:=mh (show TX w wo w7 _ v7 (X0++TR (j+1)) from by rw[HTx.out,← List.append_assoc,← JR.out];exact HXX.out.add A8x hO7 hap7 mle);clear hXR r1a r1b r2a r2b r2c r2d r3a r3b
      go_wp2
      go_roundw
      case rel=>exact⟨j+1,by omega,by go_num,LN.out⟩
      case measure=>simp[intOf];omega
     ·obtain rfl:j=br.length:=by omega
      clear hX
      go_wp2
      go_loopw [6,14] (fun v i wr=>∃n:Nat,n≤16∧i=I O n∧TX w wo wr #[I O num,.string nm,I O o,I O tn,I O tm,.slice tp tl tc,.slice bp br.length bc,I O least,I O ex,.bool true] v (X0++TN n)) (fun _ i _=>16 - (intOf i).toNat)
      case atStart=>exact⟨0,Nat.zero_le _,rfl,by rw[HN0.out];exact HXX.out⟩
      case round =>
       obtain⟨wj,rfl⟩:∃wj:World,wj=wr:=⟨_,rfl⟩;obtain⟨n,hn,rfl,hM⟩:=hrel;have HMB:=mh hM;have g8:=hM.cell 8 _ rfl;have hMl:(X0++TN n).length≤420:=by rw[lap];have h2:=HNL.out n hn;omega
       have hsz2:w.heap.size≤wj.heap.size:=hM.below.size;obtain⟨i,ei⟩:∃i:Int,(n:Int)=i:=⟨_,rfl⟩;have EI:=mh ei;have hi0:(0:Int)≤i:=by omega
       rw[ei];clear hM
       by_cases hlt2:n<16
       ·have hi1:i<16:=by omega
        have hi2:i≤15:=by omega
        cases eb:bitB ex i
        ·have EB:(bits BinOp.and IntKind.i64 (ex / 2 ^ i.toNat) 1==1)=false:=by rw[bit_one,eb]
         have HM2:=mh (show TX w wo wj #[I O num,.string nm,I O o,I O tn,I O tm,.slice tp tl tc,.slice bp br.length bc,I O least,I O ex,.bool true] _ (X0++TN (n+1)) from by rw[HNN.out n (by rw[EI.out];exact eb)];exact HMB.out);clear eb ei
         go_wp2
         go_roundw
         case rel=>exact⟨n+1,by omega,by rw[← EI.out];go_num,HM2.out⟩
         case measure=>rw[← EI.out];simp[intOf];omega
        ·have EB:(bits BinOp.and IntKind.i64 (ex / 2 ^ i.toNat) 1==1)=true:=by rw[bit_one,eb]
         have HXn:=mh (HNY.out n (by rw[EI.out];exact eb));obtain⟨D5,eD5⟩:∃D:ByteArray,(⟨(Lib.itoa i).toArray⟩:ByteArray)=D:=⟨_,rfl⟩;have hz5:D5.size≤9:=eD5▸itoa_sz hi0 (by omega);have DE5:=mh (fun (W:World)=>show Calls Tryz.prog 24 #[I O i] W (fun e w' => e = .returned (.string D5)∧Below W.heap.size W w') from eD5▸refdecimal_any (i.natAbs+1) i W (by omega) (by omega) (by omega));have JN5:=mh (show(⟨#[110,111,116,32]⟩:ByteArray)++D5=jn [wNot,Lib.itoa i] from eD5▸jn_not i);have n1:¬9223372036854775807<4+D5.size:=by omega
         have n2:4+D5.size≤9223372036854775807:=by omega
         clear eb ei eD5 hz5
         go_wp2_with (first
          | (go_at_call 24;(with_reducible refine cmo (DE5.out _) ?_);rintro e wa ⟨rfl,hba⟩;have Y8x:=mh (one_lit wa ((⟨#[110,111,116,32]⟩:ByteArray)++D5));have A8x:=mh (hba.alloc hba.size (.cells #[.string ((⟨#[110,111,116,32]⟩:ByteArray)++D5)] 9));clear hba)
          | (at_builtin;(refine OwnR.appendAll el_str rfl (.tmp 91) (.tmp 95) rfl w.heap.size _ (X0++TN n) [(⟨#[110,111,116,32]⟩:ByteArray)++D5] (some ⟨wa.heap.size,0,none⟩) 1 1 rfl (HMB.out.own.below A8x.out) Y8x.out (fun h=>by cases h) rfl (by first|rfl|simp[Act.eval,Act.put]) (Nat.le_trans hsz2 A8x.out.size) (by omega) (by decide) ?_);intro v7 w7 hO7 hap7;have LN:=mh (show TX w wo w7 #[I O num,.string nm,I O o,I O tn,I O tm,.slice tp tl tc,.slice bp br.length bc,I O least,I O ex,.bool true] v7 (X0++TN (n+1)) from by rw[HXn.out,← List.append_assoc,EI.out,← JN5.out];exact HMB.out.add A8x.out hO7 hap7 mle);clear hO7 hap7)
          | fail)
         go_roundw
         case rel=>exact⟨n+1,by omega,by rw[← EI.out];go_num,LN.out⟩
         case measure=>rw[← EI.out];simp[intOf];omega
       ·obtain rfl:n=16:=by omega
        have hi1:i=16:=ei.symm;clear ei;subst hi1
        go_wp2
        go_roundw
        case rel=>exact⟨k+1,by omega,by go_num,by rw[HS.out];exact HMB.out.own,HMB.out.below⟩
        case measure=>simp[intOf];omega
  ·obtain rfl:k=L.length:=by omega
   rw[tLaw_all]at hO;obtain⟨q,cc,rfl, -, -,hcl, -,hRc⟩:=hO.cut (List.length_map _);have hTl:=linesL_len L HR.out;have HT:=mh (show(cat ((linesL L).map jn)).length≤13600 from by rw[cat_lines];omega)
   have HF:=mh (fun (S:ByteArray) (w' : World) (hS:S.data.toList=cat ((linesL L).map jn)) (hb:Below w.heap.size w w')=>show PrintG17 L w (.returned (.tuple #[.string S,I O 0])) w' from⟨by
    rw[cat_lines]at hS;have:S=⟨(prT17 L).toArray⟩:=by unfold prT17;rw[if_pos HEQ.out];exact Cr.ba_ext (by rw[hS])
    rw[this,HEQ.out],hb⟩)
   have HN:=mh hTl.2;obtain⟨n,en⟩:∃n,(linesL L).length=n:=⟨_,rfl⟩;obtain⟨X,eX⟩:∃X,(linesL L).map jn=X:=⟨_,rfl⟩;have hXn:X.length=n:=by rw[← eX,List.length_map,en]
   rw[eX]at hRc HT HF;rw[en]at hcl HN ⊢;have hn4:n≤384:=by have:=HN.out;omega
   have HRC:=mh hRc;have HBO:=mh hb;clear hO hTl en eX hRc hb
   go_wp2
   go_loopw [15,100] (fun s i wr=>∃(j:Nat) (S:ByteArray),j≤n∧i=I O j∧s = .string S∧S.data.toList=cat (X.take j)∧wr=wo) (fun _ i _=>n - (intOf i).toNat)
   case atStart=>exact⟨0,⟨#[]⟩,Nat.zero_le _,rfl,rfl,rfl,rfl⟩
   case round =>
    obtain⟨j,S,hj,rfl,rfl,hS,rfl⟩:=hrel;have hj0:(0:Int)≤(j:Int):=inn _;have hSz:S.size≤13600:=by have h1:=cat_le X j;have h2:=HT.out;rw[← hS,size_len]at h1;omega
    have HSS:=mh hS
    by_cases hjl:j<n
    ·have hj1:(j:Int)<(n:Int):=by omega
     obtain⟨b', off', e1,hl1,hc1⟩:=HRC.out.at (show j<X.length by omega)
     cases e1
     have x0:=hc1 0 _ rfl;simp only[Nat.add_zero]at x0;have hk1:SB.k=1:=rfl;rw[hk1,Nat.mul_one]at x0;obtain⟨Y,eY⟩:∃Y,X[j]=Y:=⟨_,rfl⟩;have HY:=mh (cat_succ X j (by omega));have hYz:S.size+(Y.size+1)≤13600:=by
      have h1:=cat_le X (j+1);have h2:=HT.out;rw[HY.out,eY,lap,lap,← hS,size_len,size_len]at h1
      simp at h1
      omega
     have HY2:=mh (show(S++(Y++⟨#[10]⟩)).data.toList=cat (X.take (j+1)) from by rw[HY.out,eY,← HSS.out];simp[ByteArray.data_append]);rw[eY]at x0;have y1:¬9223372036854775807<Y.size+1:=by omega
     have y2:Y.size+1≤9223372036854775807:=by omega
     have y2a:¬9223372036854775807≤Y.size:=by omega
     have y2b:Y.size<9223372036854775807:=by omega
     have y3:¬9223372036854775807<S.size+(Y.size+1):=by omega
     have y4:S.size+(Y.size+1)≤9223372036854775807:=by omega
     clear hS hc1 eY hYz hSz
     go_wp2
     go_roundw
     case rel=>exact⟨j+1,_,by omega,by go_num,rfl,HY2.out,trivial⟩
     case measure=>simp[intOf];omega
    ·obtain rfl:j=n:=by omega
     have hS2:S.data.toList=cat X:=by rw[hS,List.take_of_length_le (by omega)]
     have HV:=mh (HF.out S wr hS2 HBO.out);have z1:¬(16384:Int)<(S.size:Int):=by omega
     have z2:¬(400:Int)<(j:Int):=by omega
     clear hS hS2
     go_wp2
     go_ret2
     exact HV.out
structure BytesAt (w:World) (b:Nat) (xs:List UInt8):Prop where
 c:∀j (hj:j<xs.length),w.cell? ⟨b,j,none⟩=some (.int .u8 (xs[j].toNat:Int))
 f:∀j,j<xs.length→w.frozen? ⟨b,j,none⟩=false
 lt:b<w.heap.size
theorem BytesAt.set {w:World}{b i:Nat}{xs:List UInt8}(h:BytesAt w b xs)(hi:i<xs.length)(x:UInt8):BytesAt (w.setCell ⟨b,i,none⟩ (.int .u8 (x.toNat:Int))) b (xs.set i x):=by
 refine⟨fun j hj=>?_,fun j hj=>?_,by simpa [World.setCell] using h.lt⟩
 ·rw[List.length_set]at hj
  by_cases e:i=j
  ·subst e
   rw[World.cell?_setCell_same _ _ _ (h.c i hi),List.getElem_set_self]
  ·rw[World.cell?_setCell_other _ _ _ _ (fun k=>e (congrArg Addr.off k)),List.getElem_set_ne e]
   exact h.c j hj
 ·rw[World.frozen?_setCell];exact h.f j (by rw[List.length_set]at hj;exact hj)
theorem bytes_back (w:World)(b cap:Nat)(xs:List UInt8)(n:Nat)(hn:xs.length=n)(h:BytesAt w b xs):(convert 47 9 (.slice (some ⟨b,0,none⟩) n cap)).run Tryz.prog w = .ok (.string ⟨xs.toArray⟩) w:=by
 subst hn;exact run_convert_bytes_back w _ _ _ ⟨b,0,none⟩ cap xs Tryz.underlying47 Tryz.underlying5 Tryz.underlying9 fun j hj=>by
  rw[Go.WideShapes.add_plain,Nat.zero_add];exact h.c j hj
theorem bytes_of (w:World)(s:ByteArray):∃(cap:Nat) (w' : World),(convert 9 47 (.string s)).run Tryz.prog w = .ok (.slice (some ⟨w.heap.size,0,none⟩) s.size cap) w' ∧ BytesAt w' w.heap.size s.data.toList∧Below w.heap.size w w' :=by
 have hr:=run_bytes_of_string w _ _ _ s Tryz.underlying9 Tryz.underlying47 Tryz.underlying5;obtain⟨C,eC⟩:∃C,bytesRow s (grownCap w s.size 0 5)=C:=⟨_,rfl⟩;rw[eC]at hr;have hz:s.data.toList.length≤C.size:=by
  rw[← eC];simp[bytesRow]
 refine⟨_,_,hr,⟨fun j hj=>?_,fun j hj=>?_,?_⟩,⟨rfl,rfl,rfl,?_,fun k hk=>?_⟩⟩
 ·rw[show w.heap.size=w.drew.heap.size from rfl,World.cell?_alloc_mark,← eC]
  unfold bytesRow;have hj2:j<(s.data.map fun b=>Value.int .u8 b.toNat).size:=by simpa using hj
  rw[Array.getElem?_append_left hj2,Array.getElem?_map,Array.getElem?_eq_getElem (by simpa using hj)]
  rfl
 ·have e:(w.drew.alloc (.cells C 5 (C.size,C.size+1))).heap[w.heap.size]?=some (.cells C 5 (C.size,C.size+1)):=by
   show(w.heap.push _)[w.heap.size]?=_
   simp
  unfold World.frozen?;rw[e]
  simp
  omega
 ·show w.heap.size<(w.heap.push _).size
  simp
 ·show w.heap.size≤(w.heap.push _).size
  simp
 ·show(w.heap.push _)[k]?=_
  rw[Array.getElem?_push,if_neg (by omega)]
end Go.Proofs.YtbcmabolkkfgfaaGreatDoor
