/- Packed. -/
import Derived.Test.YtbcmabolkkfgfaaGreatDoorQ17
set_option maxRecDepth 100000
set_option maxHeartbeats 8000000
open Go.Value renaming int → I
open Go.IntKind renaming i64 → O
namespace Go.Proofs.YtbcmabolkkfgfaaGreatDoor
open Go.RowKit Te Sc
def bw (LL:List (List (List UInt8))):List (List ByteArray):=LL.map fun ws=>ws.map bs
theorem bw_append (a b:List (List (List UInt8))):bw (a++b)=bw a++bw b:=List.map_append
theorem bw_len (a:List (List (List UInt8))):(bw a).length=a.length:=List.length_map _
def LinesG (LL:List (List (List UInt8))) (w:World) (e:Ending) (w' : World):Prop:=∃v H,e = .returned v∧LB w w' v (bw LL) H
theorem linesS_eq (s:Sch):linesS s=([headW s,wIf::textW s.cond]++s.br.map rateW)++notsTo s.ex 16:=by
 unfold linesS;simp
def base (s:Sch):List (List (List UInt8)) := [headW s,wIf::textW s.cond]
def atRate (s:Sch) (k:Nat):List (List (List UInt8)):=base s++(s.br.take k).map rateW
def atNot (s:Sch) (k:Nat):List (List (List UInt8)):=atRate s s.br.length++notsTo s.ex k
theorem atRate_zero (s:Sch):atRate s 0=base s:=by unfold atRate;simp
theorem atRate_succ (s:Sch)(k:Nat)(h:k<s.br.length):bw (atRate s (k+1))=bw (atRate s k) ++ [(rateW s.br[k]).map bs]:=by
 unfold atRate;rw[take_map_succ rateW s.br k h,← List.append_assoc,bw_append];rfl
theorem atRate_at (s:Sch)(k:Nat)(x:Brk)(h:s.br[k]?=some x):bw (atRate s (k+1))=bw (atRate s k) ++ [(rateW x).map bs]:=by
 obtain⟨hk,e⟩:=List.getElem?_eq_some_iff.1 h;rw[atRate_succ s k hk,e]
theorem atNot_zero (s:Sch):atNot s 0=atRate s s.br.length:=by unfold atNot notsTo;simp
theorem atNot_yes (s:Sch)(k:Nat)(h:bitB s.ex (k:Int)=true):bw (atNot s (k+1))=bw (atNot s k) ++ [[bs wNot,bs (Lib.itoa (k:Int))]]:=by
 unfold atNot;rw[notsTo_succ,if_pos h,← List.append_assoc,bw_append];rfl
theorem atNot_no (s:Sch)(k:Nat)(h:bitB s.ex (k:Int)=false):atNot s (k+1)=atNot s k:=by
 unfold atNot;rw[notsTo_succ,if_neg (by rw[h];decide),List.append_nil]
theorem atNot_all (s:Sch):atNot s 16=linesS s:=by rw[linesS_eq];unfold atNot atRate base;rw[List.take_length]
theorem atRate_len (s:Sch)(k:Nat):(bw (atRate s k)).length≤2+s.br.length:=by
 rw[bw_len];unfold atRate base;rw[lap,List.length_map,List.length_take];simp;omega
theorem notsTo_len (x:Int)(n:Nat):(notsTo x n).length≤n:=by
 induction n with
 | zero=>simp[notsTo]
 | succ n ih=>rw[notsTo_succ,lap];split<;>simp<;>omega
theorem atNot_len (s:Sch)(k:Nat)(h:k≤16):(bw (atNot s k)).length≤18+s.br.length:=by
 have h1:=atRate_len s s.br.length;have h2:=notsTo_len s.ex k;rw[bw_len]at h1 ⊢;unfold atNot;rw[lap];omega
theorem OwnR.hd {w:World}{B:Nat}{v:Value}{L:List ByteArray}(h:OwnR SB w 9 B v L){n:Nat}(hn:L.length=n):∃p c,v = .slice p n c∧WordsAt w ⟨p,n,c⟩ L∧∀a,p=some a→B≤a.block∧a.block<w.heap.size:=by
 obtain⟨p,c,e,h1,h2,h3, -,h5⟩:=h.cut hn;exact⟨p,c,e,⟨hn.symm,h5,fun e=>(h1 e).1,h3⟩,fun a e=>⟨(h2 a e).2.2.1,(h2 a e).2.2.2⟩⟩
theorem lines17_any {Q:Nat→Prop}(d:Nat)(r:RSx)(s:Sch)(w:World)(h:SV Q w d r s)(h1:one17 s=0)(hE:Env w) :
  Calls Tryz.prog 33 #[.agg #[I O r.num,.string r.nm,I O r.t.op,I O r.t.num,I O r.t.more,.slice r.t.p r.t.n r.t.c,.slice r.bp r.bn r.bc,I O r.least,I O r.ex,.bool r.needs]] w (LinesG (linesS s) w):=by
 have OK:=one_parts h1;have HE:=mh hE;have HBR:=mh h.br;have HBN:=h.bn;have HNE:=h.needs;have HEX:=h.ex;have HLE:=h.least;have HNU:=h.num;have HNM:=h.nm;have WD:=mh (fun (W:World) (hW:Below w.heap.size w W)=>words16_any d r.t s.cond W (h.below hW).t OK.2.2.2.2.1 (hE.below hW));have TL:=mh (show(textW s.cond).length≤480 from by have h1:=textW_len (chkT_ok OK.2.2.2.2.1).2.2;have h2:=(chkT_ok OK.2.2.2.2.1).1;omega);have HN:=mh (fun k (hk:k≤16)=>atNot_len s k hk);have HRL:=mh (fun k=>atRate_len s k);have HRS:=mh (fun k x hx=>atRate_at s k x hx);have HNY:=mh (fun k hk=>atNot_yes s k hk);have HNN:=mh (fun k hk=>atNot_no s k hk);have HN0:=mh (atNot_zero s);have HR0:=mh (atRate_zero s);have HNA:=mh (atNot_all s);have EBASE:=mh (show base s = [headW s,wIf::textW s.cond] from rfl);have EHEAD:=mh (show headW s = [wScheme,Lib.itoa r.num,r.nm.data.toList,Lib.itoa r.least]++(if r.needs then [wEnt] else []) from by rw[HNU,HNM,HLE,HNE];rfl);obtain⟨LS,eLS⟩:∃x,linesS s=x:=⟨_,rfl⟩;rw[eLS]at HNA ⊢;obtain⟨AN,eAN⟩:∃x,atNot s=x:=⟨_,rfl⟩;obtain⟨AR,eAR⟩:∃x,atRate s=x:=⟨_,rfl⟩;obtain⟨BA,eBA⟩:∃x,base s=x:=⟨_,rfl⟩;obtain⟨HW,eHW⟩:∃x,headW s=x:=⟨_,rfl⟩;obtain⟨TW,eTW⟩:∃x,textW s.cond=x:=⟨_,rfl⟩;obtain⟨br,ebr⟩:∃x,s.br=x:=⟨_,rfl⟩;simp only[eAN,eAR,ebr]at HNA HN0 HN HRL HRS HNY HNN;rw[eAR,eBA]at HR0;rw[eBA,eHW,eTW]at EBASE;rw[eHW]at EHEAD;rw[eTW]at TL;unfold WordsG at WD;rw[eTW]at WD;rw[ebr]at HBR HBN;have obr:brB br=true:=ebr▸OK.2.2.2.2.2.1;rw[← HEX]at HNY HNN;have o1:=OK.1;have o2:=OK.2.1;have o3:=OK.2.2.1;have o4:=OK.2.2.2.1;rw[← HNU]at o1 o2;rw[← HLE]at o3 o4;clear h hE h1 OK eLS eAN eAR eBA eHW eTW ebr HNE HEX HLE HNU HNM s;obtain⟨num,nm,⟨o,tn,tm,tp,tl,tc⟩,bp,bn,bc,least,ex,needs⟩:=r;simp only at HBR HBN o1 o2 o3 o4 WD EHEAD HNY HNN;have HA:=mh (balloc mle (brf w.heap.size w) (.cells #[I O num,.string nm,I O o,I O tn,I O tm,.slice tp tl tc,.slice bp bn bc,I O least,I O ex,.bool needs] 31));have hbl6:=(brB_len obr);have BEA:=mh (br_each obr);have hblen:=HBR.out.len;subst HBN;clear obr;obtain⟨W1,eW1⟩:∃W:World,W=w.alloc (.cells #[I O num,.string nm,I O o,I O tn,I O tm,.slice tp tl tc,.slice bp br.length bc,I O least,I O ex,.bool needs] 31):=⟨_,rfl⟩;have HW1:=mh (show Below w.heap.size w W1 from by rw[eW1];exact HA.out);have HS1:=mh (show w.heap.size<W1.heap.size by rw[eW1];simp);have hcell:∀i u,(#[I O num,.string nm,I O o,I O tn,I O tm,.slice tp tl tc,.slice bp br.length bc,I O least,I O ex,.bool needs]:Array Value)[i]?=some u→W1.cell? ⟨w.heap.size,i,none⟩=some u:=fun i u hu=>by rw[eW1];exact(cwn _ _ _ _).trans hu
 have KC:=mh (fun (W:World) (hb:Below W1.heap.size W1 W) i u (hu:(#[I O num,.string nm,I O o,I O tn,I O tm,.slice tp tl tc,.slice bp br.length bc,I O least,I O ex,.bool needs]:Array Value)[i]?=some u)=>show W.cell? ⟨w.heap.size,i,none⟩=some u from(hb.cell (p:=⟨w.heap.size,i,none⟩) HS1.out).trans (hcell i u hu));have KR:=mh (fun (W:World) (hb:Below W1.heap.size W1 W)=>show W.cell? ⟨w.heap.size,0,none⟩=some (I O num)∧W.cell? ⟨w.heap.size,1,none⟩=some (.string nm)∧W.cell? ⟨w.heap.size,7,none⟩=some (I O least) from⟨KC.out W hb 0 _ rfl,KC.out W hb 1 _ rfl,KC.out W hb 7 _ rfl⟩);have KT:=mh (fun (W:World) (hb:Below W1.heap.size W1 W)=>show W.cell? ⟨w.heap.size,2,none⟩=some (I O o)∧W.cell? ⟨w.heap.size,3,none⟩=some (I O tn)∧W.cell? ⟨w.heap.size,4,none⟩=some (I O tm)∧W.cell? ⟨w.heap.size,5,none⟩=some (.slice tp tl tc)∧W.cell? ⟨w.heap.size,6,none⟩=some (.slice bp br.length bc)∧W.cell? ⟨w.heap.size,8,none⟩=some (I O ex)∧W.cell? ⟨w.heap.size,9,none⟩=some (.bool needs) from⟨KC.out W hb 2 _ rfl,KC.out W hb 3 _ rfl,KC.out W hb 4 _ rfl,KC.out W hb 5 _ rfl,KC.out W hb 6 _ rfl,KC.out W hb 8 _ rfl,KC.out W hb 9 _ rfl⟩);have DE:=mh (fun (n:Int) (W:World) (hb:Below w.heap.size w W) (h0 : -9223372036854775808≤n) (h1:n≤9223372036854775807)=>decimal_any n W (HE.out.below hb) h0 h1);have K0d:Below W1.heap.size W1 W1.drew:=(brf _ _).drew;clear hcell
 cases needs
 all_goals
  go_enter Tryz.func33,Tryz.ntmps33
  go_wp2_with fail
  rw[← eW1];clear eW1
  go_region_held3 (fun W=>W.cell? ⟨w.heap.size,0,none⟩=some (I O num)∧W.cell? ⟨w.heap.size,1,none⟩=some (.string nm)∧W.cell? ⟨w.heap.size,7,none⟩=some (I O least))
   (first|exact KR.out _ (brf _ _)|exact KR.out _ K0d|exact KR.out _ K5|exact KR.out _ K6|exact KR.out _ K7|fail)
   (first
    | (go_at_call 55;(with_reducible refine cmo (DE.out num _ (bstep mle HW1.out K0d) (by omega) (by omega)) ?_);rintro e w5 ⟨rfl,hb5⟩;have K5:Below W1.heap.size W1 w5:=bstep mle K0d hb5)
    | (go_at_call 55;(with_reducible refine cmo (DE.out least _ (bstep mle HW1.out K5) (by omega) (by omega)) ?_);rintro e w6 ⟨rfl,hb6⟩;have K6:Below W1.heap.size W1 w6:=bstep mle K5 hb6;have K7:Below W1.heap.size W1 (w6.alloc (.cells #[.string ⟨#[115,99,104,101,109,101]⟩,.string ⟨(Lib.itoa num).toArray⟩,.string nm,.string ⟨(Lib.itoa least).toArray⟩] 9)):=balloc mle K6 _)
    | fail)
  have O7:=mh (show OwnR SB (w6.alloc (.cells #[.string ⟨#[115,99,104,101,109,101]⟩,.string ⟨(Lib.itoa num).toArray⟩,.string nm,.string ⟨(Lib.itoa least).toArray⟩] 9)) 9 W1.heap.size (.slice (some ⟨w6.heap.size,0,none⟩) 4 4) [bs wScheme,bs (Lib.itoa num),nm,bs (Lib.itoa least)] from row_own w6 9 _ rfl (by omega) K6.size);obtain⟨k2,k3,k4,k5,k6,k8,k9⟩:=KT.out _ K7;have HK7:=mh K7;clear K5 K6 K7 hb5 hb6
 ·obtain⟨pH,epH⟩:∃p,(some ⟨w6.heap.size,0,none⟩:Option Addr)=p:=⟨_,rfl⟩
  obtain⟨W7,eW7⟩:∃W,w6.alloc (.cells #[.string ⟨#[115,99,104,101,109,101]⟩,.string ⟨(Lib.itoa num).toArray⟩,.string nm,.string ⟨(Lib.itoa least).toArray⟩] 9)=W:=⟨_,rfl⟩;rw[epH,eW7]at O7;rw[eW7]at HK7 k2 k3 k4 k5 k6 k8 k9;rw[epH,eW7];obtain⟨_,_,er,HWA,HPA⟩:=O7.out.hd (show List.length _=4 from rfl)
  cases er
  have HYH:=mh (show WordsAt W7 ⟨pH,4,4⟩ (HW.map bs) from by rw[EHEAD.out];exact HWA);have HPH:=mh HPA;clear epH eW7 HWA HPA O7;have WD7:=mh (WD.out W7 (bstep mle HW1.out HK7.out))
  go_wp2_with (first
   | (go_at_call 56;(with_reducible refine cmo WD7.out ?_);rintro e w8 ⟨p8,c8,rfl,hO8,hb8⟩;obtain⟨_,_,er8,HA8, -⟩:=hO8.hd (List.length_map _);cases er8;have A8:=mh HA8;have HK8:=mh (bstep mle HK7.out hb8);have HB8:=mh hb8;obtain⟨-, -, -, -,q6,q8, -⟩:=KT.out _ HK8.out;clear hO8 hb8 HA8)
   | (at_builtin;(refine OwnR.appendAll el_str rfl (.tmp 31) (.tmp 32) rfl w8.heap.size (.slice (some ⟨w8.heap.size,0,none⟩) 1 1) [bs wIf] (TW.map bs) p8 c8 TW.length (List.length_map _) (row_own w8 9 [bs wIf] rfl (by omega) mle) (A8.out.2.1.below ((brf _ _).alloc mle _)) A8.out.2.2.1 rfl (by first|rfl|simp[Act.eval,Act.put]) (by simp) (by have:=TL.out;show 1+_<_;omega) (by decide) ?_);intro v9 w9 hO9 hap9;obtain⟨p9,c9,rfl,hA9,hP9⟩:=hO9.hd (show([bs wIf]++TW.map bs).length=1+TW.length by simp[Nat.add_comm]);have HB9:=mh (((brf w8.heap.size w8).alloc mle (.cells #[.string ⟨#[105,102]⟩] 9)).trans hap9.below);have B19:=mh (bstep mle HK8.out HB9.out);have r1:=KT.out _ (B19.out.alloc B19.out.size (.cells #[.slice pH 4 4,.slice p9 (1+TW.length) c9] 48));obtain⟨-, -, -, -,r6,r8, -⟩:=r1;have L0:=mh (LB.two (w:=W1) B19.out ((HYH.out.below HB8.out).below HB9.out) hA9 (fun a e=>⟨(HPH.out a e).1,nll (HPH.out a e).2 (Nat.le_trans HB8.out.size HB9.out.size)⟩) (fun a e=>⟨Nat.le_trans HK8.out.size (hP9 a e).1,(hP9 a e).2⟩));clear hO9 hap9 hA9 hP9 q6 q8)
   | fail)
  go_loopw [6,38] (fun v i wr=>∃(k:Nat) (H:List Hd),k≤br.length∧i=I O k∧LB W1 wr v (bw (AR k)) H) (fun _ i _=>br.length - (intOf i).toNat)
  case atStart=>exact⟨0,_,Nat.zero_le _,rfl,by rw[HR0.out,EBASE.out];exact L0.out⟩
  case round =>
   obtain⟨wo,rfl⟩:∃wo:World,wo=wr:=⟨_,rfl⟩;obtain⟨k,R,hk,rfl,hB⟩:=hrel;have hk0:(0:Int)≤(k:Int):=inn _;have HBW:=mh (bstep mle HW1.out hB.below);have hRl:R.length≤8:=by have h1:=hB.hl;have h2:=HRL.out k;omega
   clear k2 k3 k4 k5 k6 k8 k9 r6 r8
   by_cases hlt:k<br.length
   ·have hk1:(k:Int)<(br.length:Int):=by omega
    obtain⟨b,off,x,rfl,hbl,x0,x1,hx⟩:=SBk_at (HBR.out.below HBW.out) hlt;have HX:=mh (HRS.out k x (by rw[List.getElem?_eq_getElem hlt,hx.out]));have hxb:=BEA.out x (by rw[← hx.out];exact List.getElem_mem hlt);obtain⟨up,rate⟩:=x;simp only at x0 x1 hxb;have HLB:=mh hB;have hWB:Below wo.heap.size wo (wo.alloc (.cells #[I O up,I O rate] 54)):=(brf _ _).alloc mle _;have KD:=mh (fun (n:Int) (W:World) (hb:Below (wo.heap.size+1) (wo.alloc (.cells #[I O up,I O rate] 54)) W) (h0:0≤n) (h1:n≤268435456)=>DE.out n W (bstep mle HBW.out (hWB.trans (hb.mono (Nat.le_succ _)))) (by omega) (by omega))
    have KX:=mh (fun (W:World) (hb:Below (wo.heap.size+1) (wo.alloc (.cells #[I O up,I O rate] 54)) W)=>show W.cell? ⟨wo.heap.size,0,none⟩=some (I O up)∧W.cell? ⟨wo.heap.size,1,none⟩=some (I O rate) from
     ⟨(hb.cell (p:=⟨wo.heap.size,0,none⟩) (Nat.lt_succ_self _)).trans (cwn _ _ _ _),(hb.cell (p:=⟨wo.heap.size,1,none⟩) (Nat.lt_succ_self _)).trans (cwn _ _ _ _)⟩)
    have HWB:=mh hWB;have hsz0:W1.heap.size≤wo.heap.size:=hB.below.size;have K0:Below (wo.heap.size+1) (wo.alloc (.cells #[I O up,I O rate] 54)) (wo.alloc (.cells #[I O up,I O rate] 54)):=brf _ _;have K0d:Below (wo.heap.size+1) (wo.alloc (.cells #[I O up,I O rate] 54)) (wo.alloc (.cells #[I O up,I O rate] 54)).drew:=K0.drew;obtain⟨u0,u1,u2,u3⟩:=hxb;have u4:rate≤268435456:=by omega
    have U0:=mh u0;have U1:=mh u1;have U2:=mh u2;have U4:=mh u4;clear hB hWB u0 u1 u2 u3 u4 hx
    go_wp2_with fail
    clear x0 x1 hbl
    go_region_held3 (fun W=>W.cell? ⟨wo.heap.size,0,none⟩=some (I O up)∧W.cell? ⟨wo.heap.size,1,none⟩=some (I O rate))
     (first|exact KX.out _ K0|exact KX.out _ K0d|exact KX.out _ K5|exact KX.out _ K6|exact KX.out _ (K6.alloc (bl1 K6) _)|exact KX.out _ K8|exact⟨(C7 0).trans (KX.out _ K8).1,(C7 1).trans (KX.out _ K8).2⟩|fail)
     (first
      | (go_at_call 55;(with_reducible refine cmo (KD.out up _ (by first|exact K0d|exact K0) U0.out U1.out) ?_);rintro e wa ⟨rfl,hba⟩;have K5:Below (wo.heap.size+1) (wo.alloc (.cells #[I O up,I O rate] 54)) wa:=(by first|exact K0d.trans (hba.mono (by simp))|exact K0.trans (hba.mono (by simp))))
      | (go_at_call 55;(with_reducible refine cmo (KD.out rate _ K5 U2.out U4.out) ?_);rintro e wb ⟨rfl,hbb⟩;have K6:Below (wo.heap.size+1) (wo.alloc (.cells #[I O up,I O rate] 54)) wb:=K5.trans (hbb.mono (bl1 K5));have K8:Below (wo.heap.size+1) (wo.alloc (.cells #[I O up,I O rate] 54)) ((wb.alloc (.cells #[.string ⟨#[114,97,116,101]⟩,.string ⟨(Lib.itoa up).toArray⟩,.string ⟨(Lib.itoa rate).toArray⟩] 9)).alloc (.cells #[.slice (some ⟨wb.heap.size,0,none⟩) 3 3] 48)):=(K6.alloc (bl1 K6) _).alloc (Nat.le_succ_of_le (bl1 K6) |> fun h=>by rw[World.size_alloc];exact h) _;have A8x:=HWB.out.trans (K8.mono (Nat.le_succ _));have Y8:=row_hd (row_at wb [bs wRate,bs (Lib.itoa up),bs (Lib.itoa rate)] (n:=3) rfl (by omega)))
      | (refine OwnR.stepAp el_row (by rfl) (.tmp 42) (.tmp 50) (by rfl) W1.heap.size _ R [(⟨some ⟨wb.heap.size,0,none⟩,3,3⟩:Hd)] (some ⟨wb.heap.size+1,0,none⟩) 1 1 rfl (HLB.out.own.below A8x) Y8.1 (fun h=>by cases h) (by rfl) (by rfl) (Nat.le_trans hsz0 A8x.size) (by omega) (by decide) ?_;intro v7 w7 hO7 hap7;have C7:=hap7.cells (b:=wo.heap.size) (nll (Nat.lt_succ_self _) (bl1 K8)) (HLB.out.own.away mle))|fail)
    have LN:=mh (HLB.out.add A8x [bs wRate,bs (Lib.itoa up),bs (Lib.itoa rate)] ⟨some ⟨wb.heap.size,0,none⟩,3,3⟩ Y8.2 (fun a e=>by cases e;have:=bl1 K6;simp;omega) mle hO7 hap7)
    go_wp2
    go_roundw
    case rel=>exact⟨k+1,_,by omega,by go_num,by rw[HX.out];exact LN.out⟩
    case measure=>simp[intOf];omega
   ·obtain rfl:k=br.length:=by omega
    have HLB:=mh hB;clear hB
    go_wp2
    go_loopw [6,53] (fun v i wr=>∃(k:Nat) (H:List Hd),k≤16∧i=I O k∧LB W1 wr v (bw (AN k)) H) (fun _ i _=>16 - (intOf i).toNat)
    case atStart=>exact⟨0,_,Nat.zero_le _,rfl,by rw[HN0.out];exact HLB.out⟩
    case round =>
     obtain⟨wi,rfl⟩:∃wi:World,wi=wr:=⟨_,rfl⟩;obtain⟨n,M,hn,rfl,hM⟩:=hrel;have HMB:=mh hM;have HBI:=mh (bstep mle HW1.out hM.below);have hMl:M.length≤24:=by have h1:=hM.hl;have h2:=HN.out n hn;omega
     obtain⟨-, -, -, -, -,g8, -⟩:=KT.out _ hM.below;have hsz0:W1.heap.size≤wi.heap.size:=hM.below.size;obtain⟨i,ei⟩:∃i:Int,(n:Int)=i:=⟨_,rfl⟩;have EI:=mh ei;have hi0:(0:Int)≤i:=by omega
     rw[ei];clear hM
     by_cases hlt2:n<16
     ·have hi1:i<16:=by omega
      have hi2:i≤15:=by omega
      cases eb:bitB ex i
      ·have EB:(bits BinOp.and IntKind.i64 (ex / 2 ^ i.toNat) 1==1)=false:=by rw[bit_one,eb]
       have HM2:=mh (show LB W1 wi _ (bw (AN (n+1))) M from by rw[HNN.out n (by rw[EI.out];exact eb)];exact HMB.out);clear eb ei
       go_wp2
       go_roundw
       case rel=>exact⟨n+1,M,by omega,by rw[← EI.out];go_num,HM2.out⟩
       case measure=>rw[← EI.out];simp[intOf];omega
      ·have EB:(bits BinOp.and IntKind.i64 (ex / 2 ^ i.toNat) 1==1)=true:=by rw[bit_one,eb]
       have HX:=mh (HNY.out n (by rw[EI.out];exact eb));have DI:=mh (DE.out i wi HBI.out (by omega) (by omega));clear eb ei
       go_wp2_with (first
        | (go_at_call 55;(with_reducible refine cmo DI.out ?_);rintro e wa ⟨rfl,hba⟩;have HBA:=mh hba;have Y8:=mh (row_hd (row_at wa [bs wNot,bs (Lib.itoa i)] (n:=2) rfl (by omega)));have A8x:=mh ((hba.alloc hba.size (.cells #[.string ⟨#[110,111,116]⟩,.string ⟨(Lib.itoa i).toArray⟩] 9)).alloc (by have:=hba.size;rw[World.size_alloc];omega) (.cells #[.slice (some ⟨wa.heap.size,0,none⟩) 2 2] 48));clear hba)
        | (at_builtin;(refine OwnR.appendAll el_row rfl (.tmp 62) (.tmp 66) rfl W1.heap.size _ M [(⟨some ⟨wa.heap.size,0,none⟩,2,2⟩:Hd)] (some ⟨wa.heap.size+1,0,none⟩) 1 1 rfl (HMB.out.own.below A8x.out) Y8.out.1 (fun h=>by cases h) rfl (by first|rfl|simp[Act.eval,Act.put]) (Nat.le_trans hsz0 A8x.out.size) (by omega) (by decide) ?_);intro v7 w7 hO7 hap7;have LN:=mh (HMB.out.add A8x.out [bs wNot,bs (Lib.itoa i)] ⟨some ⟨wa.heap.size,0,none⟩,2,2⟩ Y8.out.2 (fun a e=>by cases e;have:=HBA.out.size;simp;omega) mle hO7 hap7);clear hO7 hap7)
        | fail)
       go_roundw
       case rel=>exact⟨n+1,_,by omega,by rw[← EI.out];go_num,by rw[HX.out,EI.out];exact LN.out⟩
       case measure=>rw[← EI.out];simp[intOf];omega
     ·obtain rfl:n=16:=by omega
      have hi1:i=16:=ei.symm;clear ei;subst hi1
      go_wp2
      go_ret
      exact⟨_,M,rfl,by rw[← HNA.out];exact HMB.out.elder HW1.out⟩
 ·go_wp2_with (first
   | (at_builtin;(refine OwnR.appendAll el_str rfl (.tmp 21) (.tmp 22) rfl W1.heap.size (.slice (some ⟨w6.heap.size,0,none⟩) 4 4) _ [bs wEnt] (some ⟨(w6.alloc (.cells #[.string ⟨#[115,99,104,101,109,101]⟩,.string ⟨(Lib.itoa num).toArray⟩,.string nm,.string ⟨(Lib.itoa least).toArray⟩] 9)).heap.size,0,none⟩) 1 1 rfl (O7.out.below ((brf _ _).alloc mle _)) (Recs.lit _ 9 [bs wEnt] (by show 1≤_;unfold maxLen;omega)) (fun h=>by cases h) rfl (by first|rfl|simp[Act.eval]) (by have:=HK7.out.size;rw[World.size_alloc];omega) (by show 4+1<_;omega) (by decide) ?_);intro v2 W7 hO2 hap2;have HK7n:=mh ((balloc mle HK7.out (.cells #[.string ⟨#[101,110,116,105,116,108,101,100]⟩] 9)).trans hap2.below);obtain⟨pH,cH,rfl,hAH,hPH⟩:=hO2.hd (show List.length _=5 from rfl);have HYH:=mh (show WordsAt W7 ⟨pH,5,cH⟩ (HW.map bs) from by rw[EHEAD.out];exact hAH);have HPH:=mh hPH;have WD7:=mh (WD.out W7 (bstep mle HW1.out HK7n.out));clear hO2 hap2 hAH hPH O7 k2 k3 k4 k5 k6 k8 k9;obtain⟨k2,k3,k4,k5,k6,k8,k9⟩:=KT.out _ HK7n.out)
   | fail)
  replace HK7:=HK7n
  clear HK7n
  go_wp2_with (first
   | (go_at_call 56;(with_reducible refine cmo WD7.out ?_);rintro e w8 ⟨p8,c8,rfl,hO8,hb8⟩;obtain⟨_,_,er8,HA8, -⟩:=hO8.hd (List.length_map _);cases er8;have A8:=mh HA8;have HK8:=mh (bstep mle HK7.out hb8);have HB8:=mh hb8;obtain⟨-, -, -, -,q6,q8, -⟩:=KT.out _ HK8.out;clear hO8 hb8 HA8)
   | (at_builtin;(refine OwnR.appendAll el_str rfl (.tmp 31) (.tmp 32) rfl w8.heap.size (.slice (some ⟨w8.heap.size,0,none⟩) 1 1) [bs wIf] (TW.map bs) p8 c8 TW.length (List.length_map _) (row_own w8 9 [bs wIf] rfl (by omega) mle) (A8.out.2.1.below ((brf _ _).alloc mle _)) A8.out.2.2.1 rfl (by first|rfl|simp[Act.eval,Act.put]) (by simp) (by have:=TL.out;show 1+_<_;omega) (by decide) ?_);intro v9 w9 hO9 hap9;obtain⟨p9,c9,rfl,hA9,hP9⟩:=hO9.hd (show([bs wIf]++TW.map bs).length=1+TW.length by simp[Nat.add_comm]);have HB9:=mh (((brf w8.heap.size w8).alloc mle (.cells #[.string ⟨#[105,102]⟩] 9)).trans hap9.below);have B19:=mh (bstep mle HK8.out HB9.out);have r1:=KT.out _ (B19.out.alloc B19.out.size (.cells #[.slice pH 5 cH,.slice p9 (1+TW.length) c9] 48));obtain⟨-, -, -, -,r6,r8, -⟩:=r1;have L0:=mh (LB.two (w:=W1) B19.out ((HYH.out.below HB8.out).below HB9.out) hA9 (fun a e=>⟨(HPH.out a e).1,nll (HPH.out a e).2 (Nat.le_trans HB8.out.size HB9.out.size)⟩) (fun a e=>⟨Nat.le_trans HK8.out.size (hP9 a e).1,(hP9 a e).2⟩));clear hO9 hap9 hA9 hP9 q6 q8)
   | fail)
  go_loopw [6,38] (fun v i wr=>∃(k:Nat) (H:List Hd),k≤br.length∧i=I O k∧LB W1 wr v (bw (AR k)) H) (fun _ i _=>br.length - (intOf i).toNat)
  case atStart=>exact⟨0,_,Nat.zero_le _,rfl,by rw[HR0.out,EBASE.out];exact L0.out⟩
  case round =>
   obtain⟨wo,rfl⟩:∃wo:World,wo=wr:=⟨_,rfl⟩;obtain⟨k,R,hk,rfl,hB⟩:=hrel;have hk0:(0:Int)≤(k:Int):=inn _;have HBW:=mh (bstep mle HW1.out hB.below);have hRl:R.length≤8:=by have h1:=hB.hl;have h2:=HRL.out k;omega
   clear k2 k3 k4 k5 k6 k8 k9 r6 r8
   by_cases hlt:k<br.length
   ·have hk1:(k:Int)<(br.length:Int):=by omega
    obtain⟨b,off,x,rfl,hbl,x0,x1,hx⟩:=SBk_at (HBR.out.below HBW.out) hlt;have HX:=mh (HRS.out k x (by rw[List.getElem?_eq_getElem hlt,hx.out]));have hxb:=BEA.out x (by rw[← hx.out];exact List.getElem_mem hlt);obtain⟨up,rate⟩:=x;simp only at x0 x1 hxb;have HLB:=mh hB;have hWB:Below wo.heap.size wo (wo.alloc (.cells #[I O up,I O rate] 54)):=(brf _ _).alloc mle _;have KD:=mh (fun (n:Int) (W:World) (hb:Below (wo.heap.size+1) (wo.alloc (.cells #[I O up,I O rate] 54)) W) (h0:0≤n) (h1:n≤268435456)=>DE.out n W (bstep mle HBW.out (hWB.trans (hb.mono (Nat.le_succ _)))) (by omega) (by omega))
    have KX:=mh (fun (W:World) (hb:Below (wo.heap.size+1) (wo.alloc (.cells #[I O up,I O rate] 54)) W)=>show W.cell? ⟨wo.heap.size,0,none⟩=some (I O up)∧W.cell? ⟨wo.heap.size,1,none⟩=some (I O rate) from
     ⟨(hb.cell (p:=⟨wo.heap.size,0,none⟩) (Nat.lt_succ_self _)).trans (cwn _ _ _ _),(hb.cell (p:=⟨wo.heap.size,1,none⟩) (Nat.lt_succ_self _)).trans (cwn _ _ _ _)⟩)
    have HWB:=mh hWB;have hsz0:W1.heap.size≤wo.heap.size:=hB.below.size;have K0:Below (wo.heap.size+1) (wo.alloc (.cells #[I O up,I O rate] 54)) (wo.alloc (.cells #[I O up,I O rate] 54)):=brf _ _;have K0d:Below (wo.heap.size+1) (wo.alloc (.cells #[I O up,I O rate] 54)) (wo.alloc (.cells #[I O up,I O rate] 54)).drew:=K0.drew;obtain⟨u0,u1,u2,u3⟩:=hxb;have u4:rate≤268435456:=by omega
    have U0:=mh u0;have U1:=mh u1;have U2:=mh u2;have U4:=mh u4;clear hB hWB u0 u1 u2 u3 u4 hx
    go_wp2_with fail
    clear x0 x1 hbl
    go_region_held3 (fun W=>W.cell? ⟨wo.heap.size,0,none⟩=some (I O up)∧W.cell? ⟨wo.heap.size,1,none⟩=some (I O rate))
     (first|exact KX.out _ K0|exact KX.out _ K0d|exact KX.out _ K5|exact KX.out _ K6|exact KX.out _ (K6.alloc (bl1 K6) _)|exact KX.out _ K8|exact⟨(C7 0).trans (KX.out _ K8).1,(C7 1).trans (KX.out _ K8).2⟩|fail)
     (first
      | (go_at_call 55;(with_reducible refine cmo (KD.out up _ (by first|exact K0d|exact K0) U0.out U1.out) ?_);rintro e wa ⟨rfl,hba⟩;have K5:Below (wo.heap.size+1) (wo.alloc (.cells #[I O up,I O rate] 54)) wa:=(by first|exact K0d.trans (hba.mono (by simp))|exact K0.trans (hba.mono (by simp))))
      | (go_at_call 55;(with_reducible refine cmo (KD.out rate _ K5 U2.out U4.out) ?_);rintro e wb ⟨rfl,hbb⟩;have K6:Below (wo.heap.size+1) (wo.alloc (.cells #[I O up,I O rate] 54)) wb:=K5.trans (hbb.mono (bl1 K5));have K8:Below (wo.heap.size+1) (wo.alloc (.cells #[I O up,I O rate] 54)) ((wb.alloc (.cells #[.string ⟨#[114,97,116,101]⟩,.string ⟨(Lib.itoa up).toArray⟩,.string ⟨(Lib.itoa rate).toArray⟩] 9)).alloc (.cells #[.slice (some ⟨wb.heap.size,0,none⟩) 3 3] 48)):=(K6.alloc (bl1 K6) _).alloc (Nat.le_succ_of_le (bl1 K6) |> fun h=>by rw[World.size_alloc];exact h) _;have A8x:=HWB.out.trans (K8.mono (Nat.le_succ _));have Y8:=row_hd (row_at wb [bs wRate,bs (Lib.itoa up),bs (Lib.itoa rate)] (n:=3) rfl (by omega)))
      | (refine OwnR.stepAp el_row (by rfl) (.tmp 42) (.tmp 50) (by rfl) W1.heap.size _ R [(⟨some ⟨wb.heap.size,0,none⟩,3,3⟩:Hd)] (some ⟨wb.heap.size+1,0,none⟩) 1 1 rfl (HLB.out.own.below A8x) Y8.1 (fun h=>by cases h) (by rfl) (by rfl) (Nat.le_trans hsz0 A8x.size) (by omega) (by decide) ?_;intro v7 w7 hO7 hap7;have C7:=hap7.cells (b:=wo.heap.size) (nll (Nat.lt_succ_self _) (bl1 K8)) (HLB.out.own.away mle))|fail)
    have LN:=mh (HLB.out.add A8x [bs wRate,bs (Lib.itoa up),bs (Lib.itoa rate)] ⟨some ⟨wb.heap.size,0,none⟩,3,3⟩ Y8.2 (fun a e=>by cases e;have:=bl1 K6;simp;omega) mle hO7 hap7)
    go_wp2
    go_roundw
    case rel=>exact⟨k+1,_,by omega,by go_num,by rw[HX.out];exact LN.out⟩
    case measure=>simp[intOf];omega
   ·obtain rfl:k=br.length:=by omega
    have HLB:=mh hB;clear hB
    go_wp2
    go_loopw [6,53] (fun v i wr=>∃(k:Nat) (H:List Hd),k≤16∧i=I O k∧LB W1 wr v (bw (AN k)) H) (fun _ i _=>16 - (intOf i).toNat)
    case atStart=>exact⟨0,_,Nat.zero_le _,rfl,by rw[HN0.out];exact HLB.out⟩
    case round =>
     obtain⟨wi,rfl⟩:∃wi:World,wi=wr:=⟨_,rfl⟩;obtain⟨n,M,hn,rfl,hM⟩:=hrel;have HMB:=mh hM;have HBI:=mh (bstep mle HW1.out hM.below);have hMl:M.length≤24:=by have h1:=hM.hl;have h2:=HN.out n hn;omega
     obtain⟨-, -, -, -, -,g8, -⟩:=KT.out _ hM.below;have hsz0:W1.heap.size≤wi.heap.size:=hM.below.size;obtain⟨i,ei⟩:∃i:Int,(n:Int)=i:=⟨_,rfl⟩;have EI:=mh ei;have hi0:(0:Int)≤i:=by omega
     rw[ei];clear hM
     by_cases hlt2:n<16
     ·have hi1:i<16:=by omega
      have hi2:i≤15:=by omega
      cases eb:bitB ex i
      ·have EB:(bits BinOp.and IntKind.i64 (ex / 2 ^ i.toNat) 1==1)=false:=by rw[bit_one,eb]
       have HM2:=mh (show LB W1 wi _ (bw (AN (n+1))) M from by rw[HNN.out n (by rw[EI.out];exact eb)];exact HMB.out);clear eb ei
       go_wp2
       go_roundw
       case rel=>exact⟨n+1,M,by omega,by rw[← EI.out];go_num,HM2.out⟩
       case measure=>rw[← EI.out];simp[intOf];omega
      ·have EB:(bits BinOp.and IntKind.i64 (ex / 2 ^ i.toNat) 1==1)=true:=by rw[bit_one,eb]
       have HX:=mh (HNY.out n (by rw[EI.out];exact eb));have DI:=mh (DE.out i wi HBI.out (by omega) (by omega));clear eb ei
       go_wp2_with (first
        | (go_at_call 55;(with_reducible refine cmo DI.out ?_);rintro e wa ⟨rfl,hba⟩;have HBA:=mh hba;have Y8:=mh (row_hd (row_at wa [bs wNot,bs (Lib.itoa i)] (n:=2) rfl (by omega)));have A8x:=mh ((hba.alloc hba.size (.cells #[.string ⟨#[110,111,116]⟩,.string ⟨(Lib.itoa i).toArray⟩] 9)).alloc (by have:=hba.size;rw[World.size_alloc];omega) (.cells #[.slice (some ⟨wa.heap.size,0,none⟩) 2 2] 48));clear hba)
        | (at_builtin;(refine OwnR.appendAll el_row rfl (.tmp 62) (.tmp 66) rfl W1.heap.size _ M [(⟨some ⟨wa.heap.size,0,none⟩,2,2⟩:Hd)] (some ⟨wa.heap.size+1,0,none⟩) 1 1 rfl (HMB.out.own.below A8x.out) Y8.out.1 (fun h=>by cases h) rfl (by first|rfl|simp[Act.eval,Act.put]) (Nat.le_trans hsz0 A8x.out.size) (by omega) (by decide) ?_);intro v7 w7 hO7 hap7;have LN:=mh (HMB.out.add A8x.out [bs wNot,bs (Lib.itoa i)] ⟨some ⟨wa.heap.size,0,none⟩,2,2⟩ Y8.out.2 (fun a e=>by cases e;have:=HBA.out.size;simp;omega) mle hO7 hap7);clear hO7 hap7)
        | fail)
       go_roundw
       case rel=>exact⟨n+1,_,by omega,by rw[← EI.out];go_num,by rw[HX.out,EI.out];exact LN.out⟩
       case measure=>rw[← EI.out];simp[intOf];omega
     ·obtain rfl:n=16:=by omega
      have hi1:i=16:=ei.symm;clear ei;subst hi1
      go_wp2
      go_ret
      exact⟨_,M,rfl,by rw[← HNA.out];exact HMB.out.elder HW1.out⟩
def prT17 (L:List Sch):List UInt8:=if (chk17 L).2=0 then Wo.jText (linesL L) else []
def PrintG17 (L:List Sch) (w:World) (e:Ending) (w' : World):Prop:=e = .returned (.tuple #[.string ⟨(prT17 L).toArray⟩,I O (chk17 L).2])∧Below w.heap.size w w'
theorem print17_bad {L:List Sch}{er:Int}(h:(chk17 L).2=er)(hne:er≠0)(w w' : World)(hb:Below w.heap.size w w'):PrintG17 L w (.returned (.tuple #[.string ⟨#[]⟩,I O er])) w' :=
 ⟨by unfold prT17;rw[if_neg (by rw[h];exact hne),h],hb⟩
theorem lb_bw (LL:List (List (List UInt8))):lb (bw LL)=LL:=by
 unfold lb bw;rw[List.map_map];have:∀ws∈LL,((fun ws:List ByteArray=>ws.map (·.data.toList)) ∘ fun ws:List (List UInt8)=>ws.map bs) ws=ws:=by
  intro ws _
  show(ws.map bs).map (·.data.toList)=ws
  rw[List.map_map];have h2:∀x∈ws,((fun x:ByteArray=>x.data.toList) ∘ bs) x=x:=fun x _=>rfl
  rw[List.map_congr_left h2,List.map_id']
 rw[List.map_congr_left this,List.map_id']
theorem chk_each {L:List Sch}(h:(chk17 L).2=0):∀s∈L,one17 s=0:=by
 obtain⟨-, -,hA, -⟩:=chk_fine h;intro s hs;obtain⟨k,hk,rfl⟩:=List.mem_iff_getElem.1 hs
 by_cases h1:one17 L[k]=0
 ·exact h1
 ·have:=hA k hk
  rw[errA_one hk h1]at this;exact this
theorem linesL_succ {L:List Sch}{k:Nat}(hk:k<L.length):bw (linesL (L.take (k+1)))=bw (linesL (L.take k))++bw (linesS L[k]):=by
 rw[tsg hk,← bw_append];unfold linesL;rw[List.flatMap_append]
 simp
theorem print17_any {Q:Nat→Prop}(d:Nat)(p:Option Addr)(L:List Sch)(cap:Nat)(w:World)(h:SsAt Q w d p L)(hz:∀s∈L,s.nm.size≤9223372036854775807)(hcap:L.length≤cap)(hE:Env w) :
  Calls Tryz.prog 11 #[.slice p L.length cap] w (PrintG17 L w):=by
 have hn:=h.len;have CK:=mh (check17_any d p L cap w h hz hcap);unfold ChkG at CK;obtain⟨⟨ci,er⟩,eer⟩:∃x,chk17 L=x:=⟨_,rfl⟩;have eer2:(chk17 L).2=er:=by rw[eer]
 rw[eer]at CK
 by_cases he:er=0
 rotate_left
 ·have HF:=mh (fun (w' : World) (hb:Below w.heap.size w w')=>print17_bad eer2 he w w' hb)
  have hne:(er != 0)=true:=by simpa using he
  clear h hz he eer eer2 hE
  go_enter Tryz.func11,Tryz.ntmps11
  go_wp2_with (first|(go_at_call 9;(with_reducible refine cmo CK.out ?_);rintro e w1 ⟨rfl,hb1⟩))
  go_ret2
  exact HF.out _ hb1
 subst he;have HR:=mh (chk_each eer2);have H16:=mh (chk_fine eer2).2.1;have HEQ:=mh eer2;have H:=mh h;have HE:=mh hE;clear h hz eer eer2 hE
 go_enter Tryz.func11,Tryz.ntmps11
 go_wp2_with (first|(go_at_call 9;(with_reducible refine cmo CK.out ?_);rintro e w1 ⟨rfl,hb1⟩))
 have HB1:=mh hb1;clear hb1
 go_loopw [6,19] (fun v i wr=>∃(k:Nat) (R:List Hd),k≤L.length∧i=I O k∧LB w wr v (bw (linesL (L.take k))) R) (fun _ i _=>L.length - (intOf i).toNat)
 case atStart=>exact⟨0, [],Nat.zero_le _,rfl,LB.nil HB1.out⟩
 case round =>
  obtain⟨wo,rfl⟩:∃wo:World,wo=wr:=⟨_,rfl⟩;obtain⟨k,R,hk,rfl,hB⟩:=hrel;have hk0:(0:Int)≤(k:Int):=inn _
  by_cases hlt:k<L.length
  ·have hk1:(k:Int)<(L.length:Int):=by omega
   obtain⟨b,off,r,rfl,hbl,hC,hv⟩:=(H.out.below hB.below).at hlt;have hone:=HR.out _ (List.getElem_mem hlt);have HS:=mh (linesL_succ hlt);have hWB:Below wo.heap.size wo (wo.alloc (.cells (sCells r).toArray 31)):=(brf _ _).alloc mle _;have LA:=mh (lines17_any d r L[k] _ (hv.below hWB) hone (HE.out.below (bstep mle hB.below hWB)));have hRl:R.length≤384:=by
    have h1:=hB.hl;rw[bw_len]at h1;have h2:=(linesL_len (L.take k) (fun s hs=>HR.out s (List.mem_of_mem_take hs))).2;have h3:=H16.out;rw[List.length_take]at h2;omega
   have hLl:=(linesS_len hone).2;have HLB:=mh hB;have HWB:=mh hWB;have hsz0:w.heap.size≤wo.heap.size:=hB.below.size;obtain⟨c0,c1,c2,c3,c4,c5,c6,c7,c8,c9⟩:=hC;obtain⟨num,nm,⟨o,tn,tm,tp,tl,tc⟩,bp,bn,bc,least,ex,needs⟩:=r;simp only at c0 c1 c2 c3 c4 c5 c6 c7 c8 c9;simp only[sCells]at LA HWB;obtain⟨SL,eSL⟩:∃x,linesS L[k]=x:=⟨_,rfl⟩;rw[eSL]at LA HS hLl;unfold LinesG at LA;clear hB hv hWB hone eSL
   go_wp2_with (first
    | (go_at_call 33;(with_reducible refine cmo LA.out ?_);rintro e w5 ⟨v5,M,rfl,hM⟩;obtain⟨p5,cc5,rfl,hp5, -,hc5, -,hR5⟩:=hM.own.cut (hM.hl.trans (bw_len SL));have HM:=mh hM;have R5:=mh hR5;have P5:=mh (fun e=>(hp5 e).1);have hMl:M.length=SL.length:=hM.hl.trans (bw_len SL);have A5:=mh (bstep mle HWB.out hM.below);clear hM hp5 hc5 hR5)
    | (at_builtin;(refine OwnR.appendAll el_row rfl (.tmp 23) (.tmp 25) rfl w.heap.size _ R M p5 cc5 SL.length hMl (HLB.out.own.below A5.out) R5.out P5.out rfl (by first|rfl|simp[Act.eval,Act.put]) (Nat.le_trans hsz0 A5.out.size) (by omega) (by decide) ?_);intro v7 w7 hO7 hap7;have LN:=mh (HLB.out.adds A5.out HM.out.hl HM.out.rows (fun k hk a e=>⟨Nat.le_trans (by simp) (HM.out.apart k hk a e).2.1,(HM.out.apart k hk a e).2.2⟩) mle hO7 hap7);clear hO7 hap7)
    | fail)
   go_roundw
   case rel=>exact⟨k+1,_,by omega,by go_num,by rw[HS.out];exact LN.out⟩
   case measure=>simp[intOf];omega
  ·obtain rfl:k=L.length:=by omega
   rw[List.take_length]at hB;have HB:=mh hB.below;obtain⟨q,cc,rfl,hLn⟩:=hB.lines (bw_len _);obtain⟨p1,p2,p3,p4⟩:=law_back HR.out H16.out;have hTl:=(linesL_len L HR.out).1;have h16:=H16.out
   have JN:=mh (joinB (bw (linesL L)) q (linesL L).length cc wo (bw_len _) hLn (by rw[lb_bw];omega) (fun ws hw=>by
    obtain⟨x,hx,rfl⟩:=List.mem_map.1 hw;rw[List.length_map];obtain⟨s,hs,hx⟩:=List.mem_flatMap.1 hx
    exact lineS_short (HR.out s hs) x hx) (by rw[lb_bw];exact p1) (by rw[lb_bw,p2]))
   have HF:=mh (fun (S:ByteArray) (w' : World) (hS:S.data.toList=Wo.jText (lb (bw (linesL L)))) (hb:Below wo.heap.size wo w')=>show PrintG17 L w (.returned (.tuple #[.string S,I O 0])) w' from⟨by
    rw[lb_bw]at hS;have:S=⟨(prT17 L).toArray⟩:=by unfold prT17;rw[if_pos HEQ.out];exact Cr.ba_ext (by rw[hS])
    rw[this,HEQ.out],bstep mle HB.out hb⟩)
   clear hB hLn p1 p2 p3 p4 hTl
   go_wp2_with (first|(go_at_call 34;(with_reducible refine cmo JN.out ?_);rintro e w2 ⟨S,hS,rfl,hb2⟩))
   go_ret2
   exact HF.out _ _ hS hb2
theorem same16_any {Q1 Q2:Nat→Prop}:∀(d:Nat) (e:Nat) (r1 r2:RT) (t:Tm) (w:World),TV Q1 w d r1 t→TV Q2 w e r2 t →
  Calls Tryz.prog 48 #[.agg #[I O r1.op,I O r1.num,I O r1.more,.slice r1.p r1.n r1.c],.agg #[I O r2.op,I O r2.num,I O r2.more,.slice r2.p r2.n r2.c]] w (BoolG true w):=by
 intro d
 induction d using Nat.strongRecOn with
 | _ d ih =>
 intro e r1 r2 t w h1 h2;obtain⟨o,n,m,p1,l1,c1⟩:=r1;obtain⟨o2,n2,m2,p2,l2,c2⟩:=r2;obtain⟨t0,tn,tm,K⟩:=t;obtain rfl:o=t0:=h1.is.op;obtain rfl:n=tn:=h1.is.num;obtain rfl:m=tm:=h1.is.more;obtain rfl:o2=o:=h2.is.op;obtain rfl:n2=n:=h2.is.num;obtain rfl:m2=m:=h2.is.more;have ha:TmsAt Q1 w d p1 K:=h1.at_;have hb:TmsAt Q2 w e p2 K:=h2.at_;have hl1:l1=K.length:=h1.is.n;have hl2:l2=K.length:=h2.is.n;have hn:=ha.len;simp only;subst hl1;subst hl2;have hA:Below w.heap.size w ((w.alloc (.cells #[I O o2,I O n2,I O m2,.slice p1 K.length c1] 28)).alloc (.cells #[I O o2,I O n2,I O m2,.slice p2 K.length c2] 28)):=((brf _ _).alloc mle _).alloc (by simp) _;have HX1:=mh (show((w.alloc (.cells #[I O o2,I O n2,I O m2,.slice p1 K.length c1] 28)).alloc (.cells #[I O o2,I O n2,I O m2,.slice p2 K.length c2] 28)).cell? ⟨w.heap.size,3,none⟩=some (.slice p1 K.length c1) by go_simp);have HX2:=mh (show((w.alloc (.cells #[I O o2,I O n2,I O m2,.slice p1 K.length c1] 28)).alloc (.cells #[I O o2,I O n2,I O m2,.slice p2 K.length c2] 28)).cell? ⟨w.heap.size+1,3,none⟩=some (.slice p2 K.length c2) by go_simp);have HA:=mh hA;have H1:=mh ha;have H2:=mh hb;have IH:=mh ih;clear h1 h2 ha hb hA ih
 go_enter Tryz.func48,Tryz.ntmps48
 go_wp2
 go_loopw [37] (fun i wr=>∃j:Nat,j≤K.length∧i=I O j∧Below w.heap.size w wr∧wr.cell? ⟨w.heap.size,3,none⟩=some (.slice p1 K.length c1)∧wr.cell? ⟨w.heap.size+1,3,none⟩=some (.slice p2 K.length c2)∧w.heap.size+1<wr.heap.size) (fun i _=>K.length - (intOf i).toNat)
 case atStart=>exact⟨0,Nat.zero_le _,rfl,HA.out,HX1.out,HX2.out,by simp⟩
 case round =>
  clear HA HX1 HX2;obtain⟨wo,rfl⟩:∃wo:World,wo=wr:=⟨_,rfl⟩;obtain⟨j,hj,rfl,hb,x1,x2,hlz⟩:=hrel;have HB:=mh hb;have hj0:(0:Int)≤(j:Int):=inn _
  by_cases hlt:j<K.length
  ·have hj1:(j:Int)<(K.length:Int):=by omega
   obtain⟨e1,b1,off1,k1,rfl,rfl,hbl1,hc1,hv1⟩:=(H1.out.below hb).kid hlt;obtain⟨e2,b2,off2,k2,rfl,rfl,hbl2,hc2,hv2⟩:=(H2.out.below hb).kid hlt;obtain⟨c10,c11,c12,c13⟩:=hc1;obtain⟨c20,c21,c22,c23⟩:=hc2;have HK:=mh (IH.out e1 (by omega) e2 k1 k2 K[j] wo.drew (hv1.below ((brf _ _).drew)) (hv2.below ((brf _ _).drew)));have X1:=mh x1;have X2:=mh x2;clear hv1 hv2 hb
   go_wp2_with fail
   refine wp_tail 10 (by kernel_rfl) (by kernel_rfl) ?_
   simp only[List.take_succ_cons,List.take_zero,List.drop_succ_cons,List.drop_zero]
   repeat still_step
   refine wpStill_nil ?_
   change wpList _ _ _ _ _ (World.drew _)
   go_wp2_with (first|(go_at_call 48;(with_reducible refine cmo HK.out ?_);rintro e w1 ⟨rfl,hb1'⟩;have hb1:=bdrew' hb1'; have y1:=(hb1.cell (p:=⟨w.heap.size,3,none⟩) (by show w.heap.size<wo.heap.size;omega)).trans X1.out;have y2:=(hb1.cell (p:=⟨w.heap.size+1,3,none⟩) hlz).trans X2.out))
   go_roundw
   case rel=>exact⟨j+1,by omega,by go_num,bstep mle HB.out hb1,y1,y2,nll hlz hb1.size⟩
   case measure=>simp[intOf];omega
  ·obtain rfl:j=K.length:=by omega
   clear hb
   go_wp2
   go_ret
   exact⟨rfl,HB.out⟩
theorem down100_any (n:Int)(h0:0≤n)(h1:n≤1125899906842624)(w:World):Calls Tryz.prog 38 #[I O n,I O 100] w fun e w' => e = .returned (I O (n / 100))∧w=w' :=by
 have FT:∀W,Calls Tryz.prog 66 #[I O n,I O 100] W fun e w' => e = .returned (.bool true)∧W=w' := fun W=>by
  have g:¬n < -1125899906842624:=by omega
  have g2:(-1125899906842624:Int)≤n:=by omega
  go_enter Tryz.func66,Tryz.ntmps66
  go_wp2
  go_ret
  exact⟨rfl,rfl⟩
 have FT:=mh FT;have hq:n.tdiv 100=n / 100:=Int.tdiv_eq_ediv_of_nonneg h0;have hr:n.tmod 100=n % 100:=Int.tmod_eq_emod_of_nonneg h0;have hr2:¬n % 100<0:=by omega
 go_enter Tryz.func38,Tryz.ntmps38
 go_wp2_with (first|(go_at_call 66;(with_reducible refine cmo (FT.out _) ?_);rintro e w1 ⟨rfl,rfl⟩))
 go_ret
 exact⟨rfl,rfl⟩
theorem refdown100_any (n:Int)(h0:0≤n)(h1:n≤1125899906842624)(w:World):Calls Tryz.prog 39 #[I O n,I O 100] w fun e w' => e = .returned (I O (n / 100))∧w=w' :=by
 have FT:∀W,Calls Tryz.prog 67 #[I O n,I O 100] W fun e w' => e = .returned (.bool true)∧W=w' := fun W=>by
  have g2:(-1125899906842624:Int)≤n:=by omega
  go_enter Tryz.func67,Tryz.ntmps67
  go_wp2
  go_ret
  exact⟨rfl,rfl⟩
 have FT:=mh FT;have hr2:¬n<n / 100*100:=by omega
 go_enter Tryz.func39,Tryz.ntmps39
 go_wp2_with (first|(go_at_call 67;(with_reducible refine cmo (FT.out _) ?_);rintro e w1 ⟨rfl,rfl⟩))
 go_ret
 exact⟨rfl,rfl⟩
end Go.Proofs.YtbcmabolkkfgfaaGreatDoor
