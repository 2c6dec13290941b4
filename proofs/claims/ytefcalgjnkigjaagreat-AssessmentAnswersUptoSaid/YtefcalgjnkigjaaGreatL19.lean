/- Packed. -/
import Derived.Test.YtefcalgjnkigjaaGreatL18
set_option maxRecDepth 100000
set_option maxHeartbeats 8000000
open Go.Value renaming int → I
open Go.IntKind renaming i64 → O
namespace Go.Proofs.YtefcalgjnkigjaaGreat
open Go.RowKit Sc As
theorem As.YOk.num {l:YLaw}(h:YOk l):∀s∈l.sch,0≤s.num∧s.num≤15:=fun _ hs=>(wD h.sch).num hs
theorem As.farmAt_zero {l:YLaw}{F:List FarmF}(h:0<F.length):zQ l F 0=yB l F[0]:=by
 unfold zQ;rw[List.getElem?_eq_getElem h];simp
theorem As.farmAt_succ {l:YLaw}{F:List FarmF}{k:Nat}(h:k+1<F.length):zQ l F (k+1)=(yB l F[k+1]&&decide (F[k].farm<F[k+1].farm)):=by
 unfold zQ;rw[List.getElem?_eq_getElem h];simp only;rw[List.getElem?_eq_getElem (by omega)]
theorem As.farmAt_bad {l:YLaw}{F:List FarmF}{k:Nat}(hk:k<F.length)(h:yB l F[k]=false):zQ l F k=false:=by
 unfold zQ;rw[List.getElem?_eq_getElem hk];simp only;rw[h];rfl
theorem As.chkF_bad {l:YLaw}{F:List FarmF}{k:Nat}(h0:kG l=0)(h1:¬10<F.length)(hk:k<F.length)(h:zQ l F k=false):xG l F=68:=by
 unfold xG;rw[if_neg (by omega),if_neg h1,if_neg];rw[List.all_eq_true];intro h2;rw[h2 k (List.mem_range.2 hk)]at h
 cases h
theorem As.chkF_good {l:YLaw}{F:List FarmF}(h0:kG l=0)(h1:¬10<F.length)(h:∀k,k<F.length→zQ l F k=true):xG l F=0:=by
 unfold xG;rw[if_neg (by omega),if_neg h1,if_pos];rw[List.all_eq_true];exact fun k hk=>h k (List.mem_range.1 hk)
theorem uS {Q Q2:Nat→Prop}(d:Nat)(r:RY)(l:YLaw)(p:Option Addr)(F:List FarmF)(cap:Nat)(w:World)(h:YV Q w d r l)(hsc:r.sn≤r.sc)(hF:yF Q2 w p F) :
  Calls Tryz.prog 15 #[.agg (yCells r).toArray,.slice p F.length cap] w (kW (xG l F) w):=by
 have hlen:=hF.len;have H:=mh hF;have HA:=mh (qK mle (brf w.heap.size w) (.cells #[.slice r.sp r.sn r.sc,.slice r.tp r.tn r.tc,I O r.due,I O r.last,I O r.mille,.slice r.gp r.gn r.gc,I O r.cap,I O r.env,I O r.unit,I O r.width] 29));have CK:=mh (bH d r l (w.alloc (.cells #[.slice r.sp r.sn r.sc,.slice r.tp r.tn r.tc,I O r.due,I O r.last,I O r.mille,.slice r.gp r.gn r.gc,I O r.cap,I O r.env,I O r.unit,I O r.width] 29)) (h.below (qK mle (brf w.heap.size w) _)) hsc);have FA:=mh (fun (ho:YOk l) (W:World) (hW:Below w.heap.size w W) (y:RF) (f:FarmF) (hf:FV Q2 W y f)=>jHA d r l y f W (h.below hW) ho.num hf);simp only[yCells,fCells]at CK FA;obtain⟨V,eV⟩:∃V,xG l F=V:=⟨_,rfl⟩;have EV:=mh eV;rw[eV];clear eV h hF hsc;simp only[yCells]
 by_cases hc:kG l=0
 rotate_left
 ·have E:=mh (show V=kG l from by rw[← EV.out];unfold xG;rw[if_pos hc])
  obtain⟨v,ev⟩:∃v,kG l=v:=⟨_,rfl⟩;rw[ev]at CK E hc;have hne:(v != 0)=true:=by simpa using hc
  clear ev hc
  go_enter Tryz.func15,Tryz.ntmps15
  go_wp2_with (go_at_call 12;(with_reducible refine cmo CK.out ?_);rintro e w1 ⟨rfl,hb1⟩;have HB1:=mh (qZ mle HA hb1);clear hb1)
  go_ret
  exact⟨by rw[E.out];rfl,HB1.out⟩
 have HC:=mh hc;rw[hc]at CK;have FO:=mh (FA (tE hc));clear hc FA
 by_cases h10:10<F.length
 ·have E:=mh (show V=1 from by rw[← EV.out];unfold xG;rw[if_neg (by rw[HC.out];decide),if_pos h10])
  have h10' : (10:Int)<(F.length:Int):=by omega
  clear h10
  go_enter Tryz.func15,Tryz.ntmps15
  go_wp2_with (go_at_call 12;(with_reducible refine cmo CK.out ?_);rintro e w1 ⟨rfl,hb1⟩;have HB1:=mh (qZ mle HA hb1);clear hb1)
  go_ret
  exact⟨by rw[E.out];rfl,HB1.out⟩
 have H10:=mh h10;have h10' : ¬(10:Int)<(F.length:Int):=by omega
 have BAD:=mh (fun (k:Nat) (hk:k<F.length) (h:zQ l F k=false)=>show V=68 from by rw[← EV.out];exact chkF_bad HC H10 hk h);have GOOD:=mh (fun (h:∀k,k<F.length→zQ l F k=true)=>show V=0 from by rw[← EV.out];exact chkF_good HC H10 h);clear h10
 go_enter Tryz.func15,Tryz.ntmps15
 go_wp2_with (go_at_call 12;(with_reducible refine cmo CK.out ?_);rintro e w1 ⟨rfl,hb1⟩;have HB1:=mh (qZ mle HA hb1);have P1:=mh ((vV.box w r 29).below hb1 (by simp));have S1:=mh (show w.heap.size<w1.heap.size from nll (by simp) hb1.size);clear hb1)
 go_loopw [18] (fun i wr=>∃k:Nat,k≤F.length∧i=I O k∧(∀j,j<k→zQ l F j=true)∧Below w1.heap.size w1 wr) (fun i _=>F.length - (intOf i).toNat)
 case atStart=>exact⟨0,Nat.zero_le _,rfl,fun j hj=>absurd hj (Nat.not_lt_zero j),brf _ _⟩
 case round =>
  obtain⟨wp,rfl⟩:∃wp:World,wp=wr:=⟨_,rfl⟩;obtain⟨k,hk,rfl,hall,hb⟩:=hrel;have HAL:=mh hall;have HBP:=mh (qZ mle HB1 hb);have hk0:(0:Int)≤(k:Int):=inn _
  by_cases hlt:k<F.length
  rotate_left
  ·obtain rfl:k=F.length:=by omega
   have E:=mh (GOOD fun j hj=>HAL.out j hj);clear hall hb
   go_wp2
   go_ret
   exact⟨by rw[E.out];rfl,HBP.out⟩
  have hk1:(k:Int)<(F.length:Int):=by omega
  obtain⟨b,off,y,rfl,hbl,⟨c0,c1,c2⟩,hv⟩:=(H.below HBP).at hlt;have P:=mh (P1.below hb S1);have T1:=mh (show w.heap.size<wp.heap.size from nll S1 hb.size);have T4:=mh hbl;have hwa:=(brf wp.heap.size wp).alloc mle (.cells #[I O y.farm,I O y.day,.slice y.lp y.ln y.lc] 47);have ca:=cwn wp #[I O y.farm,I O y.day,.slice y.lp y.ln y.lc] 47;have HBX:=mh (qK mle HBP (.cells #[I O y.farm,I O y.day,.slice y.lp y.ln y.lc] 47));have HWX:=mh (qK mle hb (.cells #[I O y.farm,I O y.day,.slice y.lp y.ln y.lc] 47));have FM:=mh (FO _ HBX.drew y F[k] ((hv.below hwa).below (brf _ _).drew));have U1:=mh (show w.heap.size<(wp.alloc (.cells #[I O y.farm,I O y.day,.slice y.lp y.ln y.lc] 47)).heap.size by simp;have:=T1.out;omega);have U3:=mh (show wp.heap.size<(wp.alloc (.cells #[I O y.farm,I O y.day,.slice y.lp y.ln y.lc] 47)).heap.size by simp);have U4:=mh (show b<(wp.alloc (.cells #[I O y.farm,I O y.day,.slice y.lp y.ln y.lc] 47)).heap.size by simp;have:=T4.out;omega);have YF:=mh hv.farm;obtain⟨bt,ebt⟩:∃b,yB l F[k]=b:=⟨_,rfl⟩;rw[ebt]at FM;have EB:=mh ebt;clear ebt hv hall
  cases bt
  ·have E:=mh (BAD k hlt (farmAt_bad hlt EB))
   have KA:=mh (show(wp.alloc (.cells #[I O y.farm,I O y.day,.slice y.lp y.ln y.lc] 47)).cell? ⟨w.heap.size,0,none⟩=some (.slice r.sp r.sn r.sc)∧(wp.alloc (.cells #[I O y.farm,I O y.day,.slice y.lp y.ln y.lc] 47)).cell? ⟨w.heap.size,1,none⟩=some (.slice r.tp r.tn r.tc)∧(wp.alloc (.cells #[I O y.farm,I O y.day,.slice y.lp y.ln y.lc] 47)).cell? ⟨w.heap.size,2,none⟩=some (I O r.due)∧(wp.alloc (.cells #[I O y.farm,I O y.day,.slice y.lp y.ln y.lc] 47)).cell? ⟨w.heap.size,3,none⟩=some (I O r.last)∧(wp.alloc (.cells #[I O y.farm,I O y.day,.slice y.lp y.ln y.lc] 47)).cell? ⟨w.heap.size,4,none⟩=some (I O r.mille)∧(wp.alloc (.cells #[I O y.farm,I O y.day,.slice y.lp y.ln y.lc] 47)).cell? ⟨w.heap.size,5,none⟩=some (.slice r.gp r.gn r.gc)∧(wp.alloc (.cells #[I O y.farm,I O y.day,.slice y.lp y.ln y.lc] 47)).cell? ⟨w.heap.size,6,none⟩=some (I O r.cap)∧(wp.alloc (.cells #[I O y.farm,I O y.day,.slice y.lp y.ln y.lc] 47)).cell? ⟨w.heap.size,7,none⟩=some (I O r.env)∧(wp.alloc (.cells #[I O y.farm,I O y.day,.slice y.lp y.ln y.lc] 47)).cell? ⟨w.heap.size,8,none⟩=some (I O r.unit)∧(wp.alloc (.cells #[I O y.farm,I O y.day,.slice y.lp y.ln y.lc] 47)).cell? ⟨w.heap.size,9,none⟩=some (I O r.width)∧(wp.alloc (.cells #[I O y.farm,I O y.day,.slice y.lp y.ln y.lc] 47)).cell? ⟨wp.heap.size,0,none⟩=some (I O y.farm)∧(wp.alloc (.cells #[I O y.farm,I O y.day,.slice y.lp y.ln y.lc] 47)).cell? ⟨wp.heap.size,1,none⟩=some (I O y.day)∧(wp.alloc (.cells #[I O y.farm,I O y.day,.slice y.lp y.ln y.lc] 47)).cell? ⟨wp.heap.size,2,none⟩=some (.slice y.lp y.ln y.lc) from⟨(hwa.cell (p:=⟨w.heap.size,0,none⟩) T1).trans P.c0,(hwa.cell (p:=⟨w.heap.size,1,none⟩) T1).trans P.c1,(hwa.cell (p:=⟨w.heap.size,2,none⟩) T1).trans P.c2,(hwa.cell (p:=⟨w.heap.size,3,none⟩) T1).trans P.c3,(hwa.cell (p:=⟨w.heap.size,4,none⟩) T1).trans P.c4,(hwa.cell (p:=⟨w.heap.size,5,none⟩) T1).trans P.c5,(hwa.cell (p:=⟨w.heap.size,6,none⟩) T1).trans P.c6,(hwa.cell (p:=⟨w.heap.size,7,none⟩) T1).trans P.c7,(hwa.cell (p:=⟨w.heap.size,8,none⟩) T1).trans P.c8,(hwa.cell (p:=⟨w.heap.size,9,none⟩) T1).trans P.c9,ca 0,ca 1,ca 2⟩);have KD:=mh (show(wp.alloc (.cells #[I O y.farm,I O y.day,.slice y.lp y.ln y.lc] 47)).drew.cell? ⟨w.heap.size,0,none⟩=some (.slice r.sp r.sn r.sc)∧(wp.alloc (.cells #[I O y.farm,I O y.day,.slice y.lp y.ln y.lc] 47)).drew.cell? ⟨w.heap.size,1,none⟩=some (.slice r.tp r.tn r.tc)∧(wp.alloc (.cells #[I O y.farm,I O y.day,.slice y.lp y.ln y.lc] 47)).drew.cell? ⟨w.heap.size,2,none⟩=some (I O r.due)∧(wp.alloc (.cells #[I O y.farm,I O y.day,.slice y.lp y.ln y.lc] 47)).drew.cell? ⟨w.heap.size,3,none⟩=some (I O r.last)∧(wp.alloc (.cells #[I O y.farm,I O y.day,.slice y.lp y.ln y.lc] 47)).drew.cell? ⟨w.heap.size,4,none⟩=some (I O r.mille)∧(wp.alloc (.cells #[I O y.farm,I O y.day,.slice y.lp y.ln y.lc] 47)).drew.cell? ⟨w.heap.size,5,none⟩=some (.slice r.gp r.gn r.gc)∧(wp.alloc (.cells #[I O y.farm,I O y.day,.slice y.lp y.ln y.lc] 47)).drew.cell? ⟨w.heap.size,6,none⟩=some (I O r.cap)∧(wp.alloc (.cells #[I O y.farm,I O y.day,.slice y.lp y.ln y.lc] 47)).drew.cell? ⟨w.heap.size,7,none⟩=some (I O r.env)∧(wp.alloc (.cells #[I O y.farm,I O y.day,.slice y.lp y.ln y.lc] 47)).drew.cell? ⟨w.heap.size,8,none⟩=some (I O r.unit)∧(wp.alloc (.cells #[I O y.farm,I O y.day,.slice y.lp y.ln y.lc] 47)).drew.cell? ⟨w.heap.size,9,none⟩=some (I O r.width)∧(wp.alloc (.cells #[I O y.farm,I O y.day,.slice y.lp y.ln y.lc] 47)).drew.cell? ⟨wp.heap.size,0,none⟩=some (I O y.farm)∧(wp.alloc (.cells #[I O y.farm,I O y.day,.slice y.lp y.ln y.lc] 47)).drew.cell? ⟨wp.heap.size,1,none⟩=some (I O y.day)∧(wp.alloc (.cells #[I O y.farm,I O y.day,.slice y.lp y.ln y.lc] 47)).drew.cell? ⟨wp.heap.size,2,none⟩=some (.slice y.lp y.ln y.lc) from KA.out)
   clear hwa ca hb hbl
   go_wp2_with fail
   refine wp_region_held_drew (S:=fun w' => w'.cell? ⟨w.heap.size,0,none⟩=some (.slice r.sp r.sn r.sc)∧w'.cell? ⟨w.heap.size,1,none⟩=some (.slice r.tp r.tn r.tc)∧w'.cell? ⟨w.heap.size,2,none⟩=some (I O r.due)∧w'.cell? ⟨w.heap.size,3,none⟩=some (I O r.last)∧w'.cell? ⟨w.heap.size,4,none⟩=some (I O r.mille)∧w'.cell? ⟨w.heap.size,5,none⟩=some (.slice r.gp r.gn r.gc)∧w'.cell? ⟨w.heap.size,6,none⟩=some (I O r.cap)∧w'.cell? ⟨w.heap.size,7,none⟩=some (I O r.env)∧w'.cell? ⟨w.heap.size,8,none⟩=some (I O r.unit)∧w'.cell? ⟨w.heap.size,9,none⟩=some (I O r.width)∧w'.cell? ⟨wp.heap.size,0,none⟩=some (I O y.farm)∧w'.cell? ⟨wp.heap.size,1,none⟩=some (I O y.day)∧w'.cell? ⟨wp.heap.size,2,none⟩=some (.slice y.lp y.ln y.lc)) (by kernel_rfl) KD (fun hHeld=>?_)
   refine tkA 0 23 ?_
   simp only[Act.put,mnA,mnB,mnC];refine tkD 1 24 ?_;refine rdA 2 25 (fun K hK=>?_);go_simp;(with_reducible refine cmo FM.out ?_);rintro e w5 ⟨rfl,hb5⟩;have HB5:=mh (qZ mle HBX.drew hb5);have HC5:=mh (qZ mle HWX.drew hb5);have K5:=mh ((kd hb5 <| kd hb5 <| kd hb5 <| k1 hb5) KA);clear hb5
   go_wp2_with fail
   refine hK.out _ _ ?hSa0_2 (fun hHeld2=>?_)
   case hSa0_2=>exact K5.out
   clear hK K;refine tkD 3 26 ?_;refine tkD 4 27 ?_;refine tkB 5 28 ?_;refine tkB 6 29 ?_;refine tkB 7 30 ?_;refine tkB 8 31 ?_;refine tkB 9 32 ?_;refine tkB 10 33 ?_;refine tkB 11 34 ?_;refine tkB 12 35 ?_;refine tkB 13 36 ?_;refine tkB 14 37 ?_;refine tkB 15 38 ?_;refine tkB 16 39 ?_;refine tkE 17 40 ?_;refine tkA 18 41 ?_;refine wpAnyH_done (by kernel_rfl) ?_ _
   go_wp2
   go_ret
   exact⟨by rw[E.out];rfl,HB5.out⟩
  ·rcases Nat.eq_zero_or_pos k with hz|hpos
   ·subst hz
    have OK:=mh (show zQ l F 0=true from by rw[farmAt_zero hlt,EB.out]);have KA:=mh (show(wp.alloc (.cells #[I O y.farm,I O y.day,.slice y.lp y.ln y.lc] 47)).cell? ⟨w.heap.size,0,none⟩=some (.slice r.sp r.sn r.sc)∧(wp.alloc (.cells #[I O y.farm,I O y.day,.slice y.lp y.ln y.lc] 47)).cell? ⟨w.heap.size,1,none⟩=some (.slice r.tp r.tn r.tc)∧(wp.alloc (.cells #[I O y.farm,I O y.day,.slice y.lp y.ln y.lc] 47)).cell? ⟨w.heap.size,2,none⟩=some (I O r.due)∧(wp.alloc (.cells #[I O y.farm,I O y.day,.slice y.lp y.ln y.lc] 47)).cell? ⟨w.heap.size,3,none⟩=some (I O r.last)∧(wp.alloc (.cells #[I O y.farm,I O y.day,.slice y.lp y.ln y.lc] 47)).cell? ⟨w.heap.size,4,none⟩=some (I O r.mille)∧(wp.alloc (.cells #[I O y.farm,I O y.day,.slice y.lp y.ln y.lc] 47)).cell? ⟨w.heap.size,5,none⟩=some (.slice r.gp r.gn r.gc)∧(wp.alloc (.cells #[I O y.farm,I O y.day,.slice y.lp y.ln y.lc] 47)).cell? ⟨w.heap.size,6,none⟩=some (I O r.cap)∧(wp.alloc (.cells #[I O y.farm,I O y.day,.slice y.lp y.ln y.lc] 47)).cell? ⟨w.heap.size,7,none⟩=some (I O r.env)∧(wp.alloc (.cells #[I O y.farm,I O y.day,.slice y.lp y.ln y.lc] 47)).cell? ⟨w.heap.size,8,none⟩=some (I O r.unit)∧(wp.alloc (.cells #[I O y.farm,I O y.day,.slice y.lp y.ln y.lc] 47)).cell? ⟨w.heap.size,9,none⟩=some (I O r.width)∧(wp.alloc (.cells #[I O y.farm,I O y.day,.slice y.lp y.ln y.lc] 47)).cell? ⟨wp.heap.size,0,none⟩=some (I O y.farm)∧(wp.alloc (.cells #[I O y.farm,I O y.day,.slice y.lp y.ln y.lc] 47)).cell? ⟨wp.heap.size,1,none⟩=some (I O y.day)∧(wp.alloc (.cells #[I O y.farm,I O y.day,.slice y.lp y.ln y.lc] 47)).cell? ⟨wp.heap.size,2,none⟩=some (.slice y.lp y.ln y.lc) from⟨(hwa.cell (p:=⟨w.heap.size,0,none⟩) T1).trans P.c0,(hwa.cell (p:=⟨w.heap.size,1,none⟩) T1).trans P.c1,(hwa.cell (p:=⟨w.heap.size,2,none⟩) T1).trans P.c2,(hwa.cell (p:=⟨w.heap.size,3,none⟩) T1).trans P.c3,(hwa.cell (p:=⟨w.heap.size,4,none⟩) T1).trans P.c4,(hwa.cell (p:=⟨w.heap.size,5,none⟩) T1).trans P.c5,(hwa.cell (p:=⟨w.heap.size,6,none⟩) T1).trans P.c6,(hwa.cell (p:=⟨w.heap.size,7,none⟩) T1).trans P.c7,(hwa.cell (p:=⟨w.heap.size,8,none⟩) T1).trans P.c8,(hwa.cell (p:=⟨w.heap.size,9,none⟩) T1).trans P.c9,ca 0,ca 1,ca 2⟩);have KD:=mh (show(wp.alloc (.cells #[I O y.farm,I O y.day,.slice y.lp y.ln y.lc] 47)).drew.cell? ⟨w.heap.size,0,none⟩=some (.slice r.sp r.sn r.sc)∧(wp.alloc (.cells #[I O y.farm,I O y.day,.slice y.lp y.ln y.lc] 47)).drew.cell? ⟨w.heap.size,1,none⟩=some (.slice r.tp r.tn r.tc)∧(wp.alloc (.cells #[I O y.farm,I O y.day,.slice y.lp y.ln y.lc] 47)).drew.cell? ⟨w.heap.size,2,none⟩=some (I O r.due)∧(wp.alloc (.cells #[I O y.farm,I O y.day,.slice y.lp y.ln y.lc] 47)).drew.cell? ⟨w.heap.size,3,none⟩=some (I O r.last)∧(wp.alloc (.cells #[I O y.farm,I O y.day,.slice y.lp y.ln y.lc] 47)).drew.cell? ⟨w.heap.size,4,none⟩=some (I O r.mille)∧(wp.alloc (.cells #[I O y.farm,I O y.day,.slice y.lp y.ln y.lc] 47)).drew.cell? ⟨w.heap.size,5,none⟩=some (.slice r.gp r.gn r.gc)∧(wp.alloc (.cells #[I O y.farm,I O y.day,.slice y.lp y.ln y.lc] 47)).drew.cell? ⟨w.heap.size,6,none⟩=some (I O r.cap)∧(wp.alloc (.cells #[I O y.farm,I O y.day,.slice y.lp y.ln y.lc] 47)).drew.cell? ⟨w.heap.size,7,none⟩=some (I O r.env)∧(wp.alloc (.cells #[I O y.farm,I O y.day,.slice y.lp y.ln y.lc] 47)).drew.cell? ⟨w.heap.size,8,none⟩=some (I O r.unit)∧(wp.alloc (.cells #[I O y.farm,I O y.day,.slice y.lp y.ln y.lc] 47)).drew.cell? ⟨w.heap.size,9,none⟩=some (I O r.width)∧(wp.alloc (.cells #[I O y.farm,I O y.day,.slice y.lp y.ln y.lc] 47)).drew.cell? ⟨wp.heap.size,0,none⟩=some (I O y.farm)∧(wp.alloc (.cells #[I O y.farm,I O y.day,.slice y.lp y.ln y.lc] 47)).drew.cell? ⟨wp.heap.size,1,none⟩=some (I O y.day)∧(wp.alloc (.cells #[I O y.farm,I O y.day,.slice y.lp y.ln y.lc] 47)).drew.cell? ⟨wp.heap.size,2,none⟩=some (.slice y.lp y.ln y.lc) from KA.out)
    rw[show((0:Nat):Int)=0 from rfl];rw[Nat.zero_mul,Nat.add_zero]at c0 c1 c2;clear hwa ca hb hbl
    go_wp2_with fail
    refine wp_region_held_drew (S:=fun w' => w'.cell? ⟨w.heap.size,0,none⟩=some (.slice r.sp r.sn r.sc)∧w'.cell? ⟨w.heap.size,1,none⟩=some (.slice r.tp r.tn r.tc)∧w'.cell? ⟨w.heap.size,2,none⟩=some (I O r.due)∧w'.cell? ⟨w.heap.size,3,none⟩=some (I O r.last)∧w'.cell? ⟨w.heap.size,4,none⟩=some (I O r.mille)∧w'.cell? ⟨w.heap.size,5,none⟩=some (.slice r.gp r.gn r.gc)∧w'.cell? ⟨w.heap.size,6,none⟩=some (I O r.cap)∧w'.cell? ⟨w.heap.size,7,none⟩=some (I O r.env)∧w'.cell? ⟨w.heap.size,8,none⟩=some (I O r.unit)∧w'.cell? ⟨w.heap.size,9,none⟩=some (I O r.width)∧w'.cell? ⟨wp.heap.size,0,none⟩=some (I O y.farm)∧w'.cell? ⟨wp.heap.size,1,none⟩=some (I O y.day)∧w'.cell? ⟨wp.heap.size,2,none⟩=some (.slice y.lp y.ln y.lc)) (by kernel_rfl) KD (fun hHeld=>?_)
    refine tkA 0 23 ?_
    simp only[Act.put,mnA,mnB,mnC];refine tkD 1 24 ?_;refine rdA 2 25 (fun K hK=>?_);go_simp;(with_reducible refine cmo FM.out ?_);rintro e w5 ⟨rfl,hb5⟩;have HB5:=mh (qZ mle HBX.drew hb5);have HC5:=mh (qZ mle HWX.drew hb5);have K5:=mh ((kd hb5 <| kd hb5 <| kd hb5 <| k1 hb5) KA);clear hb5
    go_wp2_with fail
    refine hK.out _ _ ?hSb0_2 (fun hHeld2=>?_)
    case hSb0_2=>exact K5.out
    clear hK K;refine tkD 3 26 ?_;refine tkD 4 27 ?_;refine tkD 5 28 ?_;refine tkD 6 29 ?_;refine tkD 7 30 ?_;refine tkB 8 31 ?_;refine tkB 9 32 ?_;refine tkB 10 33 ?_;refine tkB 11 34 ?_;refine tkB 12 35 ?_;refine tkB 13 36 ?_;refine tkB 14 37 ?_;refine tkB 15 38 ?_;refine tkE 16 39 ?_;refine tkD 17 40 ?_;refine tkA 18 41 ?_;refine wpAnyH_done (by kernel_rfl) ?_ _
    go_wp2
    go_roundw
    case rel=>exact⟨1,by omega,by go_num,fun j hj=>by
     obtain rfl:j=0:=by omega
     exact OK.out,HC5.out⟩
    case measure=>simp[intOf];omega
   ·obtain⟨m,hm⟩:∃m,k=m+1:=⟨k - 1,by omega⟩
    have hm0:(0:Int)≤(m:Int):=inn _;have hm1:(m:Int)<(F.length:Int):=by omega
    have hml:m<F.length:=by omega
    have hkm:IntKind.i64.wrap ((k:Int) - 1)=(m:Int):=by rw[IntKind.wrap_i64];omega
    have hkp2:(0:Int)<(k:Int):=by omega
    have HM:=mh hm;obtain⟨b', off', y2,e2, -,⟨m0, -, -⟩,hv2⟩:=(H.below HBP).at hml
    cases e2
    have YF2:=mh hv2.farm;have KA:=mh (show(wp.alloc (.cells #[I O y.farm,I O y.day,.slice y.lp y.ln y.lc] 47)).cell? ⟨w.heap.size,0,none⟩=some (.slice r.sp r.sn r.sc)∧(wp.alloc (.cells #[I O y.farm,I O y.day,.slice y.lp y.ln y.lc] 47)).cell? ⟨w.heap.size,1,none⟩=some (.slice r.tp r.tn r.tc)∧(wp.alloc (.cells #[I O y.farm,I O y.day,.slice y.lp y.ln y.lc] 47)).cell? ⟨w.heap.size,2,none⟩=some (I O r.due)∧(wp.alloc (.cells #[I O y.farm,I O y.day,.slice y.lp y.ln y.lc] 47)).cell? ⟨w.heap.size,3,none⟩=some (I O r.last)∧(wp.alloc (.cells #[I O y.farm,I O y.day,.slice y.lp y.ln y.lc] 47)).cell? ⟨w.heap.size,4,none⟩=some (I O r.mille)∧(wp.alloc (.cells #[I O y.farm,I O y.day,.slice y.lp y.ln y.lc] 47)).cell? ⟨w.heap.size,5,none⟩=some (.slice r.gp r.gn r.gc)∧(wp.alloc (.cells #[I O y.farm,I O y.day,.slice y.lp y.ln y.lc] 47)).cell? ⟨w.heap.size,6,none⟩=some (I O r.cap)∧(wp.alloc (.cells #[I O y.farm,I O y.day,.slice y.lp y.ln y.lc] 47)).cell? ⟨w.heap.size,7,none⟩=some (I O r.env)∧(wp.alloc (.cells #[I O y.farm,I O y.day,.slice y.lp y.ln y.lc] 47)).cell? ⟨w.heap.size,8,none⟩=some (I O r.unit)∧(wp.alloc (.cells #[I O y.farm,I O y.day,.slice y.lp y.ln y.lc] 47)).cell? ⟨w.heap.size,9,none⟩=some (I O r.width)∧(wp.alloc (.cells #[I O y.farm,I O y.day,.slice y.lp y.ln y.lc] 47)).cell? ⟨wp.heap.size,0,none⟩=some (I O y.farm)∧(wp.alloc (.cells #[I O y.farm,I O y.day,.slice y.lp y.ln y.lc] 47)).cell? ⟨wp.heap.size,1,none⟩=some (I O y.day)∧(wp.alloc (.cells #[I O y.farm,I O y.day,.slice y.lp y.ln y.lc] 47)).cell? ⟨wp.heap.size,2,none⟩=some (.slice y.lp y.ln y.lc)∧(wp.alloc (.cells #[I O y.farm,I O y.day,.slice y.lp y.ln y.lc] 47)).cell? ⟨b,off+m*3,none⟩=some (I O y2.farm) from⟨(hwa.cell (p:=⟨w.heap.size,0,none⟩) T1).trans P.c0,(hwa.cell (p:=⟨w.heap.size,1,none⟩) T1).trans P.c1,(hwa.cell (p:=⟨w.heap.size,2,none⟩) T1).trans P.c2,(hwa.cell (p:=⟨w.heap.size,3,none⟩) T1).trans P.c3,(hwa.cell (p:=⟨w.heap.size,4,none⟩) T1).trans P.c4,(hwa.cell (p:=⟨w.heap.size,5,none⟩) T1).trans P.c5,(hwa.cell (p:=⟨w.heap.size,6,none⟩) T1).trans P.c6,(hwa.cell (p:=⟨w.heap.size,7,none⟩) T1).trans P.c7,(hwa.cell (p:=⟨w.heap.size,8,none⟩) T1).trans P.c8,(hwa.cell (p:=⟨w.heap.size,9,none⟩) T1).trans P.c9,ca 0,ca 1,ca 2,(hwa.cell (p:=⟨b,off+m*3,none⟩) T4).trans m0⟩);have KD:=mh (show(wp.alloc (.cells #[I O y.farm,I O y.day,.slice y.lp y.ln y.lc] 47)).drew.cell? ⟨w.heap.size,0,none⟩=some (.slice r.sp r.sn r.sc)∧(wp.alloc (.cells #[I O y.farm,I O y.day,.slice y.lp y.ln y.lc] 47)).drew.cell? ⟨w.heap.size,1,none⟩=some (.slice r.tp r.tn r.tc)∧(wp.alloc (.cells #[I O y.farm,I O y.day,.slice y.lp y.ln y.lc] 47)).drew.cell? ⟨w.heap.size,2,none⟩=some (I O r.due)∧(wp.alloc (.cells #[I O y.farm,I O y.day,.slice y.lp y.ln y.lc] 47)).drew.cell? ⟨w.heap.size,3,none⟩=some (I O r.last)∧(wp.alloc (.cells #[I O y.farm,I O y.day,.slice y.lp y.ln y.lc] 47)).drew.cell? ⟨w.heap.size,4,none⟩=some (I O r.mille)∧(wp.alloc (.cells #[I O y.farm,I O y.day,.slice y.lp y.ln y.lc] 47)).drew.cell? ⟨w.heap.size,5,none⟩=some (.slice r.gp r.gn r.gc)∧(wp.alloc (.cells #[I O y.farm,I O y.day,.slice y.lp y.ln y.lc] 47)).drew.cell? ⟨w.heap.size,6,none⟩=some (I O r.cap)∧(wp.alloc (.cells #[I O y.farm,I O y.day,.slice y.lp y.ln y.lc] 47)).drew.cell? ⟨w.heap.size,7,none⟩=some (I O r.env)∧(wp.alloc (.cells #[I O y.farm,I O y.day,.slice y.lp y.ln y.lc] 47)).drew.cell? ⟨w.heap.size,8,none⟩=some (I O r.unit)∧(wp.alloc (.cells #[I O y.farm,I O y.day,.slice y.lp y.ln y.lc] 47)).drew.cell? ⟨w.heap.size,9,none⟩=some (I O r.width)∧(wp.alloc (.cells #[I O y.farm,I O y.day,.slice y.lp y.ln y.lc] 47)).drew.cell? ⟨wp.heap.size,0,none⟩=some (I O y.farm)∧(wp.alloc (.cells #[I O y.farm,I O y.day,.slice y.lp y.ln y.lc] 47)).drew.cell? ⟨wp.heap.size,1,none⟩=some (I O y.day)∧(wp.alloc (.cells #[I O y.farm,I O y.day,.slice y.lp y.ln y.lc] 47)).drew.cell? ⟨wp.heap.size,2,none⟩=some (.slice y.lp y.ln y.lc)∧(wp.alloc (.cells #[I O y.farm,I O y.day,.slice y.lp y.ln y.lc] 47)).drew.cell? ⟨b,off+m*3,none⟩=some (I O y2.farm) from KA.out)
    have SUCC:=mh (show zQ l F k=decide (y2.farm<y.farm) from by
     subst hm;rw[farmAt_succ hlt,EB.out,YF.out,YF2.out]
     rfl)
    clear hwa ca hb hbl hm m0 hv2
    by_cases hle:y.farm≤y2.farm
    ·have E:=mh (BAD k hlt (by rw[SUCC.out];simp;omega))
     have hle' : decide (y.farm≤y2.farm)=true:=dqt hle;clear hle
     go_wp2_with fail
     refine wp_region_held_drew (S:=fun w' => w'.cell? ⟨w.heap.size,0,none⟩=some (.slice r.sp r.sn r.sc)∧w'.cell? ⟨w.heap.size,1,none⟩=some (.slice r.tp r.tn r.tc)∧w'.cell? ⟨w.heap.size,2,none⟩=some (I O r.due)∧w'.cell? ⟨w.heap.size,3,none⟩=some (I O r.last)∧w'.cell? ⟨w.heap.size,4,none⟩=some (I O r.mille)∧w'.cell? ⟨w.heap.size,5,none⟩=some (.slice r.gp r.gn r.gc)∧w'.cell? ⟨w.heap.size,6,none⟩=some (I O r.cap)∧w'.cell? ⟨w.heap.size,7,none⟩=some (I O r.env)∧w'.cell? ⟨w.heap.size,8,none⟩=some (I O r.unit)∧w'.cell? ⟨w.heap.size,9,none⟩=some (I O r.width)∧w'.cell? ⟨wp.heap.size,0,none⟩=some (I O y.farm)∧w'.cell? ⟨wp.heap.size,1,none⟩=some (I O y.day)∧w'.cell? ⟨wp.heap.size,2,none⟩=some (.slice y.lp y.ln y.lc)∧w'.cell? ⟨b,off+m*3,none⟩=some (I O y2.farm)) (by kernel_rfl) KD (fun hHeld=>?_)
     refine tkA 0 23 ?_
     simp only[Act.put,mnA,mnB,mnC];refine tkD 1 24 ?_;refine rdA 2 25 (fun K hK=>?_);go_simp;(with_reducible refine cmo FM.out ?_);rintro e w5 ⟨rfl,hb5⟩;have HB5:=mh (qZ mle HBX.drew hb5);have HC5:=mh (qZ mle HWX.drew hb5);have K5:=mh ((kd hb5 <| kd hb5 <| kd hb5 <| kc hb5 <| k1 hb5) KA);clear hb5
     go_wp2_with fail
     refine hK.out _ _ ?hSc0_2 (fun hHeld2=>?_)
     case hSc0_2=>exact K5.out
     clear hK K;refine tkD 3 26 ?_;refine tkD 4 27 ?_;refine tkD 5 28 ?_;refine tkD 6 29 ?_;refine tkD 7 30 ?_;refine tkD 8 31 ?_;refine tkD 9 32 ?_;refine tkD 10 33 ?_;refine tkD 11 34 ?_;refine tkD 12 35 ?_;refine tkD 13 36 ?_;refine tkD 14 37 ?_;refine tkD 15 38 ?_;refine tkD 16 39 ?_;refine tkD 17 40 ?_;refine tkA 18 41 ?_;refine wpAnyH_done (by kernel_rfl) ?_ _
     go_wp2
     go_ret
     exact⟨by rw[E.out];rfl,HB5.out⟩
    ·have OK:=mh (show zQ l F k=true from by rw[SUCC.out];simp;omega)
     have hle' : decide (y.farm≤y2.farm)=false:=dqf hle;clear hle
     go_wp2_with fail
     refine wp_region_held_drew (S:=fun w' => w'.cell? ⟨w.heap.size,0,none⟩=some (.slice r.sp r.sn r.sc)∧w'.cell? ⟨w.heap.size,1,none⟩=some (.slice r.tp r.tn r.tc)∧w'.cell? ⟨w.heap.size,2,none⟩=some (I O r.due)∧w'.cell? ⟨w.heap.size,3,none⟩=some (I O r.last)∧w'.cell? ⟨w.heap.size,4,none⟩=some (I O r.mille)∧w'.cell? ⟨w.heap.size,5,none⟩=some (.slice r.gp r.gn r.gc)∧w'.cell? ⟨w.heap.size,6,none⟩=some (I O r.cap)∧w'.cell? ⟨w.heap.size,7,none⟩=some (I O r.env)∧w'.cell? ⟨w.heap.size,8,none⟩=some (I O r.unit)∧w'.cell? ⟨w.heap.size,9,none⟩=some (I O r.width)∧w'.cell? ⟨wp.heap.size,0,none⟩=some (I O y.farm)∧w'.cell? ⟨wp.heap.size,1,none⟩=some (I O y.day)∧w'.cell? ⟨wp.heap.size,2,none⟩=some (.slice y.lp y.ln y.lc)∧w'.cell? ⟨b,off+m*3,none⟩=some (I O y2.farm)) (by kernel_rfl) KD (fun hHeld=>?_)
     refine tkA 0 23 ?_
     simp only[Act.put,mnA,mnB,mnC];refine tkD 1 24 ?_;refine rdA 2 25 (fun K hK=>?_);go_simp;(with_reducible refine cmo FM.out ?_);rintro e w5 ⟨rfl,hb5⟩;have HB5:=mh (qZ mle HBX.drew hb5);have HC5:=mh (qZ mle HWX.drew hb5);have K5:=mh ((kd hb5 <| kd hb5 <| kd hb5 <| kc hb5 <| k1 hb5) KA);clear hb5
     go_wp2_with fail
     refine hK.out _ _ ?hSd0_2 (fun hHeld2=>?_)
     case hSd0_2=>exact K5.out
     clear hK K;refine tkD 3 26 ?_;refine tkD 4 27 ?_;refine tkD 5 28 ?_;refine tkD 6 29 ?_;refine tkD 7 30 ?_;refine tkD 8 31 ?_;refine tkD 9 32 ?_;refine tkD 10 33 ?_;refine tkD 11 34 ?_;refine tkD 12 35 ?_;refine tkD 13 36 ?_;refine tkD 14 37 ?_;refine tkD 15 38 ?_;refine tkD 16 39 ?_;refine tkD 17 40 ?_;refine tkA 18 41 ?_;refine wpAnyH_done (by kernel_rfl) ?_ _
     go_wp2
     go_roundw
     case rel=>exact⟨k+1,by omega,by go_num,fun j hj=>by
      by_cases e:j=k
      ·subst e;exact OK.out
      ·exact HAL j (by omega),HC5.out⟩
     case measure=>simp[intOf];omega
end Go.Proofs.YtefcalgjnkigjaaGreat
