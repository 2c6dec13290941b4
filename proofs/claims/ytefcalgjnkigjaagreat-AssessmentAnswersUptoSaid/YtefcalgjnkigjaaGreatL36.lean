/- Packed. -/
import Derived.Test.YtefcalgjnkigjaaGreatL34
import Derived.Test.YtefcalgjnkigjaaGreatL35
set_option maxRecDepth 100000
set_option maxHeartbeats 16000000
open Go.Value renaming int → I
open Go.IntKind renaming i64 → O
namespace Go.Proofs.YtefcalgjnkigjaaGreat
open Go.RowKit Sc As
theorem uA {Q Q2:Nat→Prop}(d:Nat)(r:RY)(l:YLaw)(p:Option Addr)(F:List FarmF)(cap:Nat)(w:World)(h:YV Q w d r l)(hsc:r.sn≤r.sc)(hF:yF Q2 w p F)(hlo:∀f∈F,∀x∈f.lines, -9223372036854775808≤x.sch) :
  Calls Tryz.prog 16 #[.agg (yCells r).toArray,.slice p F.length cap] w (kW (xG l F) w):=by
 have hlen:=hF.len;have H:=mh hF;have HLO:=mh (fun (i:Nat) (hi:i<F.length)=>hlo F[i] (List.getElem_mem hi));have HA:=mh (qK mle (brf w.heap.size w) (.cells #[.slice r.sp r.sn r.sc,.slice r.tp r.tn r.tc,I O r.due,I O r.last,I O r.mille,.slice r.gp r.gn r.gc,I O r.cap,I O r.env,I O r.unit,I O r.width] 29));have CK:=mh (cH d r l (w.alloc (.cells #[.slice r.sp r.sn r.sc,.slice r.tp r.tn r.tc,I O r.due,I O r.last,I O r.mille,.slice r.gp r.gn r.gc,I O r.cap,I O r.env,I O r.unit,I O r.width] 29)) (h.below (qK mle (brf w.heap.size w) _)) hsc);have FA:=mh (fun (ho:YOk l) (W:World) (hW:Below w.heap.size w W) (Q3:Nat→Prop) (rl:RL) (x:LineF) (hx:LV Q3 W rl x) (hl : -9223372036854775808≤x.sch)=>pL d r l rl x W (h.below hW) ho.num hx hl);simp only[yCells]at CK FA;obtain⟨V,eV⟩:∃V,xG l F=V:=⟨_,rfl⟩;have EV:=mh eV;rw[eV];clear eV h hF hsc hlo;simp only[yCells]
 by_cases hc:kG l=0
 rotate_left
 ·have E:=mh (show V=kG l from by rw[← EV.out];unfold xG;rw[if_pos hc])
  obtain⟨v,ev⟩:∃v,kG l=v:=⟨_,rfl⟩;rw[ev]at CK E hc;have hne:(v != 0)=true:=by simpa using hc
  clear ev hc
  go_enter Tryz.func16,Tryz.ntmps16
  go_wp2_with (go_at_call 13;(with_reducible refine cmo CK.out ?_);rintro e w1 ⟨rfl,hb1⟩;have HB1:=mh (qZ mle HA.out hb1);clear hb1)
  go_ret
  exact⟨by rw[E.out];rfl,HB1.out⟩
 have HC:=mh hc;rw[hc]at CK;have FO:=mh (FA.out (tE hc));clear hc FA
 by_cases h10:10<F.length
 ·have E:=mh (show V=1 from by rw[← EV.out];unfold xG;rw[if_neg (by rw[HC.out];decide),if_pos h10])
  have h10' : (10:Int)<(F.length:Int):=by omega
  clear h10
  go_enter Tryz.func16,Tryz.ntmps16
  go_wp2_with (go_at_call 13;(with_reducible refine cmo CK.out ?_);rintro e w1 ⟨rfl,hb1⟩;have HB1:=mh (qZ mle HA.out hb1);clear hb1)
  go_ret
  exact⟨by rw[E.out];rfl,HB1.out⟩
 have H10:=mh h10;have h10' : ¬(10:Int)<(F.length:Int):=by omega
 have BAD:=mh (fun (k:Nat) (hk:k<F.length) (h:zQ l F k=false)=>show V=68 from by rw[← EV.out];exact chkF_bad HC.out H10.out hk h);have GOOD:=mh (fun (h:∀k,k<F.length→zQ l F k=true)=>show V=0 from by rw[← EV.out];exact chkF_good HC.out H10.out h);clear h10
 go_enter Tryz.func16,Tryz.ntmps16
 go_wp2_with (go_at_call 13;(with_reducible refine cmo CK.out ?_);rintro e w1 ⟨rfl,hb1⟩;have HB1:=mh (qZ mle HA.out hb1);have P1:=mh ((vV.box w r 29).below hb1 (by simp));have S1:=mh (show w.heap.size<w1.heap.size from nll (by simp) hb1.size);clear hb1)
 go_loopw [6] (fun x wr=>∃i:Nat,i≤F.length∧x=I O i∧(∀j,j<i→zQ l F j=true)∧Below w1.heap.size w1 wr) (fun x _=>F.length - (intOf x).toNat)
 case atStart=>exact⟨0,Nat.zero_le _,rfl,fun j hj=>absurd hj (Nat.not_lt_zero j),brf _ _⟩
 case round =>
  obtain⟨wp,rfl⟩:∃wp:World,wp=wr:=⟨_,rfl⟩;obtain⟨i,hi,rfl,hall,hb⟩:=hrel;have HAL:=mh hall;have HBP:=mh (qZ mle HB1.out hb);have HWP:=mh hb;have hi0:(0:Int)≤(i:Int):=inn _
  by_cases hlt:i<F.length
  rotate_left
  ·obtain rfl:i=F.length:=by omega
   have E:=mh (GOOD.out fun j hj=>HAL.out j hj);clear hall hb
   go_wp2
   go_ret
   exact⟨by rw[E.out];rfl,HBP.out⟩
  have hi1:(i:Int)<(F.length:Int):=by omega
  obtain⟨b,off,y,rfl,hbl,⟨c0,c1,c2⟩,hv⟩:=(H.below HBP.out).at hlt;have P:=mh (P1.below hb S1.out);have T1:=mh (show w.heap.size<wp.heap.size from nll S1.out hb.size);have T2:=mh hbl;have HL:=mh hv.lines;have g1:=hv.farm;have g2:=hv.day;have g3:=hv.ln;have hlen2:=hv.lines.len;obtain⟨fa,da,lp,ln,lc⟩:=y;obtain⟨⟨fa', da', lines⟩,eF⟩:∃f,F[i]=f:=⟨_,rfl⟩;rw[eF]at g1 g2 g3 HL hlen2;simp only at g1 g2 g3 HL hlen2 c0 c1 c2;subst g1 g2 g3;have EF:=mh eF;have HLO2:=mh (fun x (hx:x∈lines)=>HLO.out i hlt x (by rw[eF];exact hx));have FC:=mh (farmB_cases l ⟨fa,da,lines⟩);simp only at FC;clear hv hall eF hb hbl
  by_cases hpos:(0:Int)<(i:Int)
  ·obtain⟨m,hm⟩:∃m,i=m+1:=⟨i - 1,by omega⟩
   have hm0:(0:Int)≤(m:Int):=inn _;have hm1:(m:Int)<(F.length:Int):=by omega
   have hml:m<F.length:=by omega
   have hkm:IntKind.i64.wrap ((i:Int) - 1)=(m:Int):=by rw[IntKind.wrap_i64];omega
   obtain⟨b', off', y2,e2, -,⟨y0, -, -⟩,hv2⟩:=(H.below HBP.out).at hml
   cases e2
   have YF2:=mh hv2.farm
   have SUCC:=mh (show zQ l F i=(yB l F[i]&&decide (y2.farm<fa)) from by
    have e1:=EF.out;subst hm
    rw[farmAt_succ hlt,YF2.out,e1])
   have fp:decide (0<i)=true:=dqt (by omega);clear hm hv2 hpos
   by_cases z0:fa<1
   ·have E:=mh (BAD.out i hlt (farmAt_bad hlt (by  rw[EF.out];rcases FC.out with h|h|h|h|h|h<;>first|(exfalso;omega)|exact h.2.2.2.2.2|exact h.2.2.2.2|exact h.2.2.2|exact h.2.2|exact h.2)))
    have f0:decide (fa<1)=true:=dqt z0;clear z0
    go_wp2_with fail
    refine wp_region_quiet_lit (by kernel_rfl) (by kernel_rfl) ?_
    try simp only[List.append_eq,List.cons_append,List.nil_append]
    repeat (go_big_quiet_step (fail))
    refine wpQuiet_nil ?_
    intro _ hwq;obtain⟨nq,hwr⟩:=hwq;subst hwr
    go_wp2
    go_ret
    exact⟨by rw[E.out];rfl,qH HBP.out HBP.size (qQ _ _)⟩
   have f0:decide (fa<1)=false:=dqf z0;have Z0:=mh z0;clear z0
   by_cases z1:60<fa
   ·have E:=mh (BAD.out i hlt (farmAt_bad hlt (by have k0:=Z0.out;rw[EF.out];rcases FC.out with h|h|h|h|h|h<;>first|(exfalso;omega)|exact h.2.2.2.2.2|exact h.2.2.2.2|exact h.2.2.2|exact h.2.2|exact h.2)))
    have f1:decide (60<fa)=true:=dqt z1;clear z1
    go_wp2_with fail
    refine wp_region_quiet_lit (by kernel_rfl) (by kernel_rfl) ?_
    try simp only[List.append_eq,List.cons_append,List.nil_append]
    repeat (go_big_quiet_step (fail))
    refine wpQuiet_nil ?_
    intro _ hwq;obtain⟨nq,hwr⟩:=hwq;subst hwr
    go_wp2
    go_ret
    exact⟨by rw[E.out];rfl,qH HBP.out HBP.size (qQ _ _)⟩
   have f1:decide (60<fa)=false:=dqf z1;have Z1:=mh z1;clear z1
   by_cases z2:fa≤y2.farm
   ·have E:=mh (BAD.out i hlt (by rw[SUCC.out];simp;intro _;omega))
    have f2:decide (fa≤y2.farm)=true:=dqt z2;clear z2
    go_wp2_with fail
    refine wp_region_quiet_lit (by kernel_rfl) (by kernel_rfl) ?_
    try simp only[List.append_eq,List.cons_append,List.nil_append]
    repeat (go_big_quiet_step (fail))
    refine wpQuiet_nil ?_
    intro _ hwq;obtain⟨nq,hwr⟩:=hwq;subst hwr
    go_wp2
    go_ret
    exact⟨by rw[E.out];rfl,qH HBP.out HBP.size (qQ _ _)⟩
   have f2:decide (fa≤y2.farm)=false:=dqf z2;have Z2:=mh z2;clear z2
   by_cases z3:da<0
   ·have E:=mh (BAD.out i hlt (farmAt_bad hlt (by have k0:=Z0.out;have k1:=Z1.out;have k2:=Z2.out;rw[EF.out];rcases FC.out with h|h|h|h|h|h<;>first|(exfalso;omega)|exact h.2.2.2.2.2|exact h.2.2.2.2|exact h.2.2.2|exact h.2.2|exact h.2)))
    have f3:decide (da<0)=true:=dqt z3;clear z3
    go_wp2_with fail
    refine wp_region_quiet_lit (by kernel_rfl) (by kernel_rfl) ?_
    try simp only[List.append_eq,List.cons_append,List.nil_append]
    repeat (go_big_quiet_step (fail))
    refine wpQuiet_nil ?_
    intro _ hwq;obtain⟨nq,hwr⟩:=hwq;subst hwr
    go_wp2
    go_ret
    exact⟨by rw[E.out];rfl,qH HBP.out HBP.size (qQ _ _)⟩
   have f3:decide (da<0)=false:=dqf z3;have Z3:=mh z3;clear z3
   by_cases z4:36864<da
   ·have E:=mh (BAD.out i hlt (farmAt_bad hlt (by have k0:=Z0.out;have k1:=Z1.out;have k2:=Z2.out;have k3:=Z3.out;rw[EF.out];rcases FC.out with h|h|h|h|h|h<;>first|(exfalso;omega)|exact h.2.2.2.2.2|exact h.2.2.2.2|exact h.2.2.2|exact h.2.2|exact h.2)))
    have f4:decide (36864<da)=true:=dqt z4;clear z4
    go_wp2_with fail
    refine wp_region_quiet_lit (by kernel_rfl) (by kernel_rfl) ?_
    try simp only[List.append_eq,List.cons_append,List.nil_append]
    repeat (go_big_quiet_step (fail))
    refine wpQuiet_nil ?_
    intro _ hwq;obtain⟨nq,hwr⟩:=hwq;subst hwr
    go_wp2
    go_ret
    exact⟨by rw[E.out];rfl,qH HBP.out HBP.size (qQ _ _)⟩
   have f4:decide (36864<da)=false:=dqf z4;have Z4:=mh z4;clear z4
   by_cases z5:(20:Int)<(lines.length:Int)
   ·have E:=mh (BAD.out i hlt (farmAt_bad hlt (by have k0:=Z0.out;have k1:=Z1.out;have k2:=Z2.out;have k3:=Z3.out;have k4:=Z4.out;rw[EF.out];rcases FC.out with h|h|h|h|h|h<;>first|(exfalso;omega)|exact h.2.2.2.2.2|exact h.2.2.2.2|exact h.2.2.2|exact h.2.2|exact h.2)))
    have f5:decide ((20:Int)<(lines.length:Int))=true:=dqt z5;clear z5
    go_wp2_with fail
    refine wp_region_quiet_lit (by kernel_rfl) (by kernel_rfl) ?_
    try simp only[List.append_eq,List.cons_append,List.nil_append]
    repeat (go_big_quiet_step (fail))
    refine wpQuiet_nil ?_
    intro _ hwq;obtain⟨nq,hwr⟩:=hwq;subst hwr
    go_wp2
    go_ret
    exact⟨by rw[E.out];rfl,qH HBP.out HBP.size (qQ _ _)⟩
   have f5:decide ((20:Int)<(lines.length:Int))=false:=dqf z5;have Z5:=mh z5;clear z5;have LEN:=mh (show(lines.length:Int)≤20 by have:=Z5.out;omega)
   have FB:=mh (show yB l F[i]=(lines.all (zJ l)&&decide (jZ lines≤268435456)) from by
    have k0:=Z0.out;have k1:=Z1.out;have k2:=Z2.out;have k3:=Z3.out;have k4:=Z4.out;have k5:=Z5.out;rw[EF.out]
    rcases FC.out with h|h|h|h|h|h<;>first|(exfalso;omega)|exact h.2.2.2.2.2)
   have FOK:=mh (fun (h:yB l F[i]=true)=>show zQ l F i=true from by rw[SUCC.out,h];have k2:=Z2.out;simp;omega)
   go_wp2_with fail
   refine wp_region_quiet_lit (by kernel_rfl) (by kernel_rfl) ?_
   try simp only[List.append_eq,List.cons_append,List.nil_append]
   repeat (go_big_quiet_step (fail))
   refine wpQuiet_nil ?_
   intro _ hwq;obtain⟨nq,hwr⟩:=hwq;subst hwr
   go_wp2
   go_loopw [7,8] (fun a j wr=>∃k:Nat,k≤lines.length∧j=I O k∧a=I O (jZ (lines.take k))∧(∀n (h:n<lines.length),n<k→zJ l lines[n]=true)∧Below wp.heap.size wp wr) (fun _ j _=>lines.length - (intOf j).toNat)
   case atStart=>exact⟨0,Nat.zero_le _,rfl,rfl,fun n _ hn=>absurd hn (Nat.not_lt_zero n),qQ _ _⟩
   case round =>
    obtain⟨wk,rfl⟩:∃wk:World,wk=wr:=⟨_,rfl⟩;obtain⟨k,hk,rfl,rfl,hall2,hb2⟩:=hrel;have HAL2:=mh hall2;have HWJ:=mh hb2;have HBK:=mh (qZ mle HBP.out hb2);have HWK:=mh (show Below w1.heap.size w1 wk from qZ mle HWP.out hb2);have hk0:(0:Int)≤(k:Int):=inn _;have BD:=declSum_bd hk hall2;have m2:=(hb2.cell (p:=⟨b,off+i*3+2,none⟩) T2.out).trans c2
    by_cases hkl:k<lines.length
    ·have hk1:(k:Int)<(lines.length:Int):=by omega
     obtain⟨bl,ol,y,e,hbl2,hC,hx⟩:=(HL.below hb2).at hkl
     cases e
     obtain⟨dl,ls,dp,dn,dc,se,ki,ar,bo⟩:=y;obtain⟨a0,a1,a2,a3,a4,a5,a6⟩:=hC;simp only at a0 a1 a2 a3 a4 a5 a6;have ST:=declSum_take hkl;have hyd:=hx.decl;simp only at hyd;have U1:=mh (show w.heap.size<wk.heap.size from nll T1.out hb2.size);have U2:=mh (show b<wk.heap.size from nll T2.out hb2.size);have U3:=mh hbl2;have PK:=P.below hb2 T1.out;obtain⟨q0,q1,q2,q3,q4,q5,q6,q7,q8,q9⟩:=PK;simp only[Nat.zero_add]at q1 q2 q3 q4 q5 q6 q7 q8 q9;have KD:=mh (show wk.drew.cell? ⟨w.heap.size,0,none⟩=some (.slice r.sp r.sn r.sc)∧wk.drew.cell? ⟨w.heap.size,1,none⟩=some (.slice r.tp r.tn r.tc)∧wk.drew.cell? ⟨w.heap.size,2,none⟩=some (I O r.due)∧wk.drew.cell? ⟨w.heap.size,3,none⟩=some (I O r.last)∧wk.drew.cell? ⟨w.heap.size,4,none⟩=some (I O r.mille)∧wk.drew.cell? ⟨w.heap.size,5,none⟩=some (.slice r.gp r.gn r.gc)∧wk.drew.cell? ⟨w.heap.size,6,none⟩=some (I O r.cap)∧wk.drew.cell? ⟨w.heap.size,7,none⟩=some (I O r.env)∧wk.drew.cell? ⟨w.heap.size,8,none⟩=some (I O r.unit)∧wk.drew.cell? ⟨w.heap.size,9,none⟩=some (I O r.width)∧wk.drew.cell? ⟨b,off+i*3+2,none⟩=some (.slice (some ⟨bl,ol,none⟩) lines.length lc)∧wk.drew.cell? ⟨bl,ol+k*7,none⟩=some (I O dl)∧wk.drew.cell? ⟨bl,ol+k*7+1,none⟩=some (I O ls)∧wk.drew.cell? ⟨bl,ol+k*7+2,none⟩=some (.slice dp dn dc)∧wk.drew.cell? ⟨bl,ol+k*7+3,none⟩=some (I O se)∧wk.drew.cell? ⟨bl,ol+k*7+4,none⟩=some (I O ki)∧wk.drew.cell? ⟨bl,ol+k*7+5,none⟩=some (I O ar)∧wk.drew.cell? ⟨bl,ol+k*7+6,none⟩=some (I O bo) from⟨q0,q1,q2,q3,q4,q5,q6,q7,q8,q9,m2,a0,a1,a2,a3,a4,a5,a6⟩);have LC:=mh (FO.out _ HBK.drew Q2 ⟨dl,ls,dp,dn,dc,se,ki,ar,bo⟩ lines[k] (hx.below (brf _ _).drew) (HLO2.out _ (List.getElem_mem hkl)));simp only[jS]at LC
     have HX:=mh (fun (h:zJ l lines[k]=false)=>show lines.all (zJ l)=false from by
      rw[← Bool.not_eq_true,List.all_eq_true];intro h2;rw[h2 _ (List.getElem_mem hkl)]at h
      cases h)
     have LO:=mh (fun (h:zJ l lines[k]=true)=>dL.1 h);obtain⟨bt,ebt⟩:∃b,zJ l lines[k]=b:=⟨_,rfl⟩;rw[ebt]at LC HX LO;have EB:=mh ebt;clear hx hall2 hb2 ebt hbl2
     cases bt
     ·have E:=mh (BAD.out i hlt (farmAt_bad hlt (FB.trans (by rw[HX.out rfl];rfl))))
      clear ST BD hyd LO
      go_wp2_with fail
      refine wp_region_held_drew (S:=fun w' => w'.cell? ⟨w.heap.size,0,none⟩=some (.slice r.sp r.sn r.sc)∧w'.cell? ⟨w.heap.size,1,none⟩=some (.slice r.tp r.tn r.tc)∧w'.cell? ⟨w.heap.size,2,none⟩=some (I O r.due)∧w'.cell? ⟨w.heap.size,3,none⟩=some (I O r.last)∧w'.cell? ⟨w.heap.size,4,none⟩=some (I O r.mille)∧w'.cell? ⟨w.heap.size,5,none⟩=some (.slice r.gp r.gn r.gc)∧w'.cell? ⟨w.heap.size,6,none⟩=some (I O r.cap)∧w'.cell? ⟨w.heap.size,7,none⟩=some (I O r.env)∧w'.cell? ⟨w.heap.size,8,none⟩=some (I O r.unit)∧w'.cell? ⟨w.heap.size,9,none⟩=some (I O r.width)∧w'.cell? ⟨b,off+i*3+2,none⟩=some (.slice (some ⟨bl,ol,none⟩) lines.length lc)∧w'.cell? ⟨bl,ol+k*7,none⟩=some (I O dl)∧w'.cell? ⟨bl,ol+k*7+1,none⟩=some (I O ls)∧w'.cell? ⟨bl,ol+k*7+2,none⟩=some (.slice dp dn dc)∧w'.cell? ⟨bl,ol+k*7+3,none⟩=some (I O se)∧w'.cell? ⟨bl,ol+k*7+4,none⟩=some (I O ki)∧w'.cell? ⟨bl,ol+k*7+5,none⟩=some (I O ar)∧w'.cell? ⟨bl,ol+k*7+6,none⟩=some (I O bo)) (by kernel_rfl) KD.out (fun hHeld=>?_)
      refine tkA 0 90 ?_
      simp only[Act.put,mnA,mnB,mnC];refine tkD 1 91 ?_;refine tkD 2 92 ?_;refine tkD 3 93 ?_;refine tkD 4 94 ?_;refine tkD 5 95 ?_;refine tkD 6 96 ?_;refine tkD 7 97 ?_;refine tkD 8 98 ?_;refine rdA 9 99 (fun K hK=>?_);go_simp;(with_reducible refine cmo LC.out ?_);rintro e w5 ⟨rfl,hb5⟩;have HC5:=mh (qZ mle HWK.drew hb5);have HD5:=mh (qZ mle HWJ.drew hb5);have HB5:=mh (qZ mle HBK.drew hb5);have K5:=mh ((kd hb5 <| kd hb5 <| kd hb5 <| kd hb5 <| kc hb5 <| k1 hb5) KD.out);clear hb5
      go_wp2_with fail
      refine hK.out _ _ ?hSa0_9 (fun hHeld2=>?_)
      case hSa0_9=>exact K5.out
      clear hK K;refine tkA 10 100 ?_;refine wpAnyH_done (by kernel_rfl) ?_ _
      go_wp2
      go_ret
      exact⟨by rw[E.out];rfl,HB5.out⟩
     ·have h0:=(LO.out rfl).d0
      have h1:=(LO.out rfl).d1;rw[← hyd]at h0 h1 ST;obtain⟨A,eA⟩:∃A,jZ (lines.take k)=A:=⟨_,rfl⟩;rw[eA]at BD ST ⊢;have hw:IntKind.i64.wrap (A+dl)=A+dl:=by have hle:=LEN.out;rw[IntKind.wrap_i64];omega
      have STH:=mh ST;clear ST BD hyd LO eA h0 h1
      go_wp2_with fail
      refine wp_region_held_drew (S:=fun w' => w'.cell? ⟨w.heap.size,0,none⟩=some (.slice r.sp r.sn r.sc)∧w'.cell? ⟨w.heap.size,1,none⟩=some (.slice r.tp r.tn r.tc)∧w'.cell? ⟨w.heap.size,2,none⟩=some (I O r.due)∧w'.cell? ⟨w.heap.size,3,none⟩=some (I O r.last)∧w'.cell? ⟨w.heap.size,4,none⟩=some (I O r.mille)∧w'.cell? ⟨w.heap.size,5,none⟩=some (.slice r.gp r.gn r.gc)∧w'.cell? ⟨w.heap.size,6,none⟩=some (I O r.cap)∧w'.cell? ⟨w.heap.size,7,none⟩=some (I O r.env)∧w'.cell? ⟨w.heap.size,8,none⟩=some (I O r.unit)∧w'.cell? ⟨w.heap.size,9,none⟩=some (I O r.width)∧w'.cell? ⟨b,off+i*3+2,none⟩=some (.slice (some ⟨bl,ol,none⟩) lines.length lc)∧w'.cell? ⟨bl,ol+k*7,none⟩=some (I O dl)∧w'.cell? ⟨bl,ol+k*7+1,none⟩=some (I O ls)∧w'.cell? ⟨bl,ol+k*7+2,none⟩=some (.slice dp dn dc)∧w'.cell? ⟨bl,ol+k*7+3,none⟩=some (I O se)∧w'.cell? ⟨bl,ol+k*7+4,none⟩=some (I O ki)∧w'.cell? ⟨bl,ol+k*7+5,none⟩=some (I O ar)∧w'.cell? ⟨bl,ol+k*7+6,none⟩=some (I O bo)) (by kernel_rfl) KD.out (fun hHeld=>?_)
      refine tkA 0 90 ?_
      simp only[Act.put,mnA,mnB,mnC];refine tkD 1 91 ?_;refine tkD 2 92 ?_;refine tkD 3 93 ?_;refine tkD 4 94 ?_;refine tkD 5 95 ?_;refine tkD 6 96 ?_;refine tkD 7 97 ?_;refine tkD 8 98 ?_;refine rdA 9 99 (fun K hK=>?_);go_simp;(with_reducible refine cmo LC.out ?_);rintro e w5 ⟨rfl,hb5⟩;have HC5:=mh (qZ mle HWK.drew hb5);have HD5:=mh (qZ mle HWJ.drew hb5);have HB5:=mh (qZ mle HBK.drew hb5);have K5:=mh ((kd hb5 <| kd hb5 <| kd hb5 <| kd hb5 <| kc hb5 <| k1 hb5) KD.out);clear hb5
      go_wp2_with fail
      refine hK.out _ _ ?hSb0_9 (fun hHeld2=>?_)
      case hSb0_9=>exact K5.out
      clear hK K;refine tkA 10 100 ?_;refine wpAnyH_done (by kernel_rfl) ?_ _;have r2:=K5.2.2.2.2.2.2.2.2.2.2.1;have r10:=K5.2.2.2.2.2.2.2.2.2.2.2.1
      go_wp2
      go_roundw
      case rel=>exact⟨k+1,by omega,by go_num,by rw[STH.out],fun n hn h=>by
       by_cases e:n=k
       ·subst e;exact EB.out
       ·exact HAL2.out n hn (by omega),HD5.out⟩
      case measure=>simp[intOf];omega
    ·obtain rfl:k=lines.length:=by omega
     have HV:=mh (show lines.all (zJ l)=true from by
      rw[List.all_eq_true];intro y hy;obtain⟨n,hn,rfl⟩:=List.mem_iff_getElem.1 hy
      exact hall2 n hn hn)
     rw[List.take_length]at BD ⊢;obtain⟨A,eA⟩:∃A,jZ lines=A:=⟨_,rfl⟩;rw[eA]at BD FB ⊢;clear hall2 hb2 eA hk
     by_cases hs:268435456<A
     ·have E:=mh (BAD.out i hlt (farmAt_bad hlt (FB.trans (by rw[HV.out];simp;omega))))
      go_wp2
      go_ret
      exact⟨by rw[E.out];rfl,HBK.out⟩
     ·have OK:=mh (FOK.out (FB.trans (by rw[HV.out];simp;omega)))
      go_wp2
      go_roundw
      case rel=>exact⟨i+1,by omega,by go_num,fun j hj=>by
       by_cases e:j=i
       ·subst e;exact OK.out
       ·exact HAL.out j (by omega),HWK.out⟩
      case measure=>simp[intOf];omega
  ·have HZ:=mh (show i=0 by omega)
   have fp:decide (0<i)=false:=dqf (by omega);clear hpos
   by_cases z0:fa<1
   ·have E:=mh (BAD.out i hlt (farmAt_bad hlt (by  rw[EF.out];rcases FC.out with h|h|h|h|h|h<;>first|(exfalso;omega)|exact h.2.2.2.2.2|exact h.2.2.2.2|exact h.2.2.2|exact h.2.2|exact h.2)))
    have f0:decide (fa<1)=true:=dqt z0;clear z0
    go_wp2_with fail
    refine wp_region_quiet_lit (by kernel_rfl) (by kernel_rfl) ?_
    try simp only[List.append_eq,List.cons_append,List.nil_append]
    repeat (go_big_quiet_step (fail))
    refine wpQuiet_nil ?_
    intro _ hwq;obtain⟨nq,hwr⟩:=hwq;subst hwr
    go_wp2
    go_ret
    exact⟨by rw[E.out];rfl,qH HBP.out HBP.size (qQ _ _)⟩
   have f0:decide (fa<1)=false:=dqf z0;have Z0:=mh z0;clear z0
   by_cases z1:60<fa
   ·have E:=mh (BAD.out i hlt (farmAt_bad hlt (by have k0:=Z0.out;rw[EF.out];rcases FC.out with h|h|h|h|h|h<;>first|(exfalso;omega)|exact h.2.2.2.2.2|exact h.2.2.2.2|exact h.2.2.2|exact h.2.2|exact h.2)))
    have f1:decide (60<fa)=true:=dqt z1;clear z1
    go_wp2_with fail
    refine wp_region_quiet_lit (by kernel_rfl) (by kernel_rfl) ?_
    try simp only[List.append_eq,List.cons_append,List.nil_append]
    repeat (go_big_quiet_step (fail))
    refine wpQuiet_nil ?_
    intro _ hwq;obtain⟨nq,hwr⟩:=hwq;subst hwr
    go_wp2
    go_ret
    exact⟨by rw[E.out];rfl,qH HBP.out HBP.size (qQ _ _)⟩
   have f1:decide (60<fa)=false:=dqf z1;have Z1:=mh z1;clear z1
   by_cases z2:da<0
   ·have E:=mh (BAD.out i hlt (farmAt_bad hlt (by have k0:=Z0.out;have k1:=Z1.out;rw[EF.out];rcases FC.out with h|h|h|h|h|h<;>first|(exfalso;omega)|exact h.2.2.2.2.2|exact h.2.2.2.2|exact h.2.2.2|exact h.2.2|exact h.2)))
    have f2:decide (da<0)=true:=dqt z2;clear z2
    go_wp2_with fail
    refine wp_region_quiet_lit (by kernel_rfl) (by kernel_rfl) ?_
    try simp only[List.append_eq,List.cons_append,List.nil_append]
    repeat (go_big_quiet_step (fail))
    refine wpQuiet_nil ?_
    intro _ hwq;obtain⟨nq,hwr⟩:=hwq;subst hwr
    go_wp2
    go_ret
    exact⟨by rw[E.out];rfl,qH HBP.out HBP.size (qQ _ _)⟩
   have f2:decide (da<0)=false:=dqf z2;have Z2:=mh z2;clear z2
   by_cases z3:36864<da
   ·have E:=mh (BAD.out i hlt (farmAt_bad hlt (by have k0:=Z0.out;have k1:=Z1.out;have k2:=Z2.out;rw[EF.out];rcases FC.out with h|h|h|h|h|h<;>first|(exfalso;omega)|exact h.2.2.2.2.2|exact h.2.2.2.2|exact h.2.2.2|exact h.2.2|exact h.2)))
    have f3:decide (36864<da)=true:=dqt z3;clear z3
    go_wp2_with fail
    refine wp_region_quiet_lit (by kernel_rfl) (by kernel_rfl) ?_
    try simp only[List.append_eq,List.cons_append,List.nil_append]
    repeat (go_big_quiet_step (fail))
    refine wpQuiet_nil ?_
    intro _ hwq;obtain⟨nq,hwr⟩:=hwq;subst hwr
    go_wp2
    go_ret
    exact⟨by rw[E.out];rfl,qH HBP.out HBP.size (qQ _ _)⟩
   have f3:decide (36864<da)=false:=dqf z3;have Z3:=mh z3;clear z3
   by_cases z4:(20:Int)<(lines.length:Int)
   ·have E:=mh (BAD.out i hlt (farmAt_bad hlt (by have k0:=Z0.out;have k1:=Z1.out;have k2:=Z2.out;have k3:=Z3.out;rw[EF.out];rcases FC.out with h|h|h|h|h|h<;>first|(exfalso;omega)|exact h.2.2.2.2.2|exact h.2.2.2.2|exact h.2.2.2|exact h.2.2|exact h.2)))
    have f4:decide ((20:Int)<(lines.length:Int))=true:=dqt z4;clear z4
    go_wp2_with fail
    refine wp_region_quiet_lit (by kernel_rfl) (by kernel_rfl) ?_
    try simp only[List.append_eq,List.cons_append,List.nil_append]
    repeat (go_big_quiet_step (fail))
    refine wpQuiet_nil ?_
    intro _ hwq;obtain⟨nq,hwr⟩:=hwq;subst hwr
    go_wp2
    go_ret
    exact⟨by rw[E.out];rfl,qH HBP.out HBP.size (qQ _ _)⟩
   have f4:decide ((20:Int)<(lines.length:Int))=false:=dqf z4;have Z4:=mh z4;clear z4;have LEN:=mh (show(lines.length:Int)≤20 by have:=Z4.out;omega)
   have FB:=mh (show yB l F[i]=(lines.all (zJ l)&&decide (jZ lines≤268435456)) from by
    have k0:=Z0.out;have k1:=Z1.out;have k2:=Z2.out;have k3:=Z3.out;have k4:=Z4.out;rw[EF.out]
    rcases FC.out with h|h|h|h|h|h<;>first|(exfalso;omega)|exact h.2.2.2.2.2)
   have FOK:=mh (fun (h:yB l F[i]=true)=>show zQ l F i=true from by have hz:=HZ.out;subst hz;rw[farmAt_zero hlt];exact h)
   go_wp2_with fail
   refine wp_region_quiet_lit (by kernel_rfl) (by kernel_rfl) ?_
   try simp only[List.append_eq,List.cons_append,List.nil_append]
   repeat (go_big_quiet_step (fail))
   refine wpQuiet_nil ?_
   intro _ hwq;obtain⟨nq,hwr⟩:=hwq;subst hwr
   go_wp2
   go_loopw [7,8] (fun a j wr=>∃k:Nat,k≤lines.length∧j=I O k∧a=I O (jZ (lines.take k))∧(∀n (h:n<lines.length),n<k→zJ l lines[n]=true)∧Below wp.heap.size wp wr) (fun _ j _=>lines.length - (intOf j).toNat)
   case atStart=>exact⟨0,Nat.zero_le _,rfl,rfl,fun n _ hn=>absurd hn (Nat.not_lt_zero n),qQ _ _⟩
   case round =>
    obtain⟨wk,rfl⟩:∃wk:World,wk=wr:=⟨_,rfl⟩;obtain⟨k,hk,rfl,rfl,hall2,hb2⟩:=hrel;have HAL2:=mh hall2;have HWJ:=mh hb2;have HBK:=mh (qZ mle HBP.out hb2);have HWK:=mh (show Below w1.heap.size w1 wk from qZ mle HWP.out hb2);have hk0:(0:Int)≤(k:Int):=inn _;have BD:=declSum_bd hk hall2;have m2:=(hb2.cell (p:=⟨b,off+i*3+2,none⟩) T2.out).trans c2
    by_cases hkl:k<lines.length
    ·have hk1:(k:Int)<(lines.length:Int):=by omega
     obtain⟨bl,ol,y,e,hbl2,hC,hx⟩:=(HL.below hb2).at hkl
     cases e
     obtain⟨dl,ls,dp,dn,dc,se,ki,ar,bo⟩:=y;obtain⟨a0,a1,a2,a3,a4,a5,a6⟩:=hC;simp only at a0 a1 a2 a3 a4 a5 a6;have ST:=declSum_take hkl;have hyd:=hx.decl;simp only at hyd;have U1:=mh (show w.heap.size<wk.heap.size from nll T1.out hb2.size);have U2:=mh (show b<wk.heap.size from nll T2.out hb2.size);have U3:=mh hbl2;have PK:=P.below hb2 T1.out;obtain⟨q0,q1,q2,q3,q4,q5,q6,q7,q8,q9⟩:=PK;simp only[Nat.zero_add]at q1 q2 q3 q4 q5 q6 q7 q8 q9;have KD:=mh (show wk.drew.cell? ⟨w.heap.size,0,none⟩=some (.slice r.sp r.sn r.sc)∧wk.drew.cell? ⟨w.heap.size,1,none⟩=some (.slice r.tp r.tn r.tc)∧wk.drew.cell? ⟨w.heap.size,2,none⟩=some (I O r.due)∧wk.drew.cell? ⟨w.heap.size,3,none⟩=some (I O r.last)∧wk.drew.cell? ⟨w.heap.size,4,none⟩=some (I O r.mille)∧wk.drew.cell? ⟨w.heap.size,5,none⟩=some (.slice r.gp r.gn r.gc)∧wk.drew.cell? ⟨w.heap.size,6,none⟩=some (I O r.cap)∧wk.drew.cell? ⟨w.heap.size,7,none⟩=some (I O r.env)∧wk.drew.cell? ⟨w.heap.size,8,none⟩=some (I O r.unit)∧wk.drew.cell? ⟨w.heap.size,9,none⟩=some (I O r.width)∧wk.drew.cell? ⟨b,off+i*3+2,none⟩=some (.slice (some ⟨bl,ol,none⟩) lines.length lc)∧wk.drew.cell? ⟨bl,ol+k*7,none⟩=some (I O dl)∧wk.drew.cell? ⟨bl,ol+k*7+1,none⟩=some (I O ls)∧wk.drew.cell? ⟨bl,ol+k*7+2,none⟩=some (.slice dp dn dc)∧wk.drew.cell? ⟨bl,ol+k*7+3,none⟩=some (I O se)∧wk.drew.cell? ⟨bl,ol+k*7+4,none⟩=some (I O ki)∧wk.drew.cell? ⟨bl,ol+k*7+5,none⟩=some (I O ar)∧wk.drew.cell? ⟨bl,ol+k*7+6,none⟩=some (I O bo) from⟨q0,q1,q2,q3,q4,q5,q6,q7,q8,q9,m2,a0,a1,a2,a3,a4,a5,a6⟩);have LC:=mh (FO.out _ HBK.drew Q2 ⟨dl,ls,dp,dn,dc,se,ki,ar,bo⟩ lines[k] (hx.below (brf _ _).drew) (HLO2.out _ (List.getElem_mem hkl)));simp only[jS]at LC
     have HX:=mh (fun (h:zJ l lines[k]=false)=>show lines.all (zJ l)=false from by
      rw[← Bool.not_eq_true,List.all_eq_true];intro h2;rw[h2 _ (List.getElem_mem hkl)]at h
      cases h)
     have LO:=mh (fun (h:zJ l lines[k]=true)=>dL.1 h);obtain⟨bt,ebt⟩:∃b,zJ l lines[k]=b:=⟨_,rfl⟩;rw[ebt]at LC HX LO;have EB:=mh ebt;clear hx hall2 hb2 ebt hbl2
     cases bt
     ·have E:=mh (BAD.out i hlt (farmAt_bad hlt (FB.trans (by rw[HX.out rfl];rfl))))
      clear ST BD hyd LO
      go_wp2_with fail
      refine wp_region_held_drew (S:=fun w' => w'.cell? ⟨w.heap.size,0,none⟩=some (.slice r.sp r.sn r.sc)∧w'.cell? ⟨w.heap.size,1,none⟩=some (.slice r.tp r.tn r.tc)∧w'.cell? ⟨w.heap.size,2,none⟩=some (I O r.due)∧w'.cell? ⟨w.heap.size,3,none⟩=some (I O r.last)∧w'.cell? ⟨w.heap.size,4,none⟩=some (I O r.mille)∧w'.cell? ⟨w.heap.size,5,none⟩=some (.slice r.gp r.gn r.gc)∧w'.cell? ⟨w.heap.size,6,none⟩=some (I O r.cap)∧w'.cell? ⟨w.heap.size,7,none⟩=some (I O r.env)∧w'.cell? ⟨w.heap.size,8,none⟩=some (I O r.unit)∧w'.cell? ⟨w.heap.size,9,none⟩=some (I O r.width)∧w'.cell? ⟨b,off+i*3+2,none⟩=some (.slice (some ⟨bl,ol,none⟩) lines.length lc)∧w'.cell? ⟨bl,ol+k*7,none⟩=some (I O dl)∧w'.cell? ⟨bl,ol+k*7+1,none⟩=some (I O ls)∧w'.cell? ⟨bl,ol+k*7+2,none⟩=some (.slice dp dn dc)∧w'.cell? ⟨bl,ol+k*7+3,none⟩=some (I O se)∧w'.cell? ⟨bl,ol+k*7+4,none⟩=some (I O ki)∧w'.cell? ⟨bl,ol+k*7+5,none⟩=some (I O ar)∧w'.cell? ⟨bl,ol+k*7+6,none⟩=some (I O bo)) (by kernel_rfl) KD.out (fun hHeld=>?_)
      refine tkA 0 90 ?_
      simp only[Act.put,mnA,mnB,mnC];refine tkD 1 91 ?_;refine tkD 2 92 ?_;refine tkD 3 93 ?_;refine tkD 4 94 ?_;refine tkD 5 95 ?_;refine tkD 6 96 ?_;refine tkD 7 97 ?_;refine tkD 8 98 ?_;refine rdA 9 99 (fun K hK=>?_);go_simp;(with_reducible refine cmo LC.out ?_);rintro e w5 ⟨rfl,hb5⟩;have HC5:=mh (qZ mle HWK.drew hb5);have HD5:=mh (qZ mle HWJ.drew hb5);have HB5:=mh (qZ mle HBK.drew hb5);have K5:=mh ((kd hb5 <| kd hb5 <| kd hb5 <| kd hb5 <| kc hb5 <| k1 hb5) KD.out);clear hb5
      go_wp2_with fail
      refine hK.out _ _ ?hSc0_9 (fun hHeld2=>?_)
      case hSc0_9=>exact K5.out
      clear hK K;refine tkA 10 100 ?_;refine wpAnyH_done (by kernel_rfl) ?_ _
      go_wp2
      go_ret
      exact⟨by rw[E.out];rfl,HB5.out⟩
     ·have h0:=(LO.out rfl).d0
      have h1:=(LO.out rfl).d1;rw[← hyd]at h0 h1 ST;obtain⟨A,eA⟩:∃A,jZ (lines.take k)=A:=⟨_,rfl⟩;rw[eA]at BD ST ⊢;have hw:IntKind.i64.wrap (A+dl)=A+dl:=by have hle:=LEN.out;rw[IntKind.wrap_i64];omega
      have STH:=mh ST;clear ST BD hyd LO eA h0 h1
      go_wp2_with fail
      refine wp_region_held_drew (S:=fun w' => w'.cell? ⟨w.heap.size,0,none⟩=some (.slice r.sp r.sn r.sc)∧w'.cell? ⟨w.heap.size,1,none⟩=some (.slice r.tp r.tn r.tc)∧w'.cell? ⟨w.heap.size,2,none⟩=some (I O r.due)∧w'.cell? ⟨w.heap.size,3,none⟩=some (I O r.last)∧w'.cell? ⟨w.heap.size,4,none⟩=some (I O r.mille)∧w'.cell? ⟨w.heap.size,5,none⟩=some (.slice r.gp r.gn r.gc)∧w'.cell? ⟨w.heap.size,6,none⟩=some (I O r.cap)∧w'.cell? ⟨w.heap.size,7,none⟩=some (I O r.env)∧w'.cell? ⟨w.heap.size,8,none⟩=some (I O r.unit)∧w'.cell? ⟨w.heap.size,9,none⟩=some (I O r.width)∧w'.cell? ⟨b,off+i*3+2,none⟩=some (.slice (some ⟨bl,ol,none⟩) lines.length lc)∧w'.cell? ⟨bl,ol+k*7,none⟩=some (I O dl)∧w'.cell? ⟨bl,ol+k*7+1,none⟩=some (I O ls)∧w'.cell? ⟨bl,ol+k*7+2,none⟩=some (.slice dp dn dc)∧w'.cell? ⟨bl,ol+k*7+3,none⟩=some (I O se)∧w'.cell? ⟨bl,ol+k*7+4,none⟩=some (I O ki)∧w'.cell? ⟨bl,ol+k*7+5,none⟩=some (I O ar)∧w'.cell? ⟨bl,ol+k*7+6,none⟩=some (I O bo)) (by kernel_rfl) KD.out (fun hHeld=>?_)
      refine tkA 0 90 ?_
      simp only[Act.put,mnA,mnB,mnC];refine tkD 1 91 ?_;refine tkD 2 92 ?_;refine tkD 3 93 ?_;refine tkD 4 94 ?_;refine tkD 5 95 ?_;refine tkD 6 96 ?_;refine tkD 7 97 ?_;refine tkD 8 98 ?_;refine rdA 9 99 (fun K hK=>?_);go_simp;(with_reducible refine cmo LC.out ?_);rintro e w5 ⟨rfl,hb5⟩;have HC5:=mh (qZ mle HWK.drew hb5);have HD5:=mh (qZ mle HWJ.drew hb5);have HB5:=mh (qZ mle HBK.drew hb5);have K5:=mh ((kd hb5 <| kd hb5 <| kd hb5 <| kd hb5 <| kc hb5 <| k1 hb5) KD.out);clear hb5
      go_wp2_with fail
      refine hK.out _ _ ?hSd0_9 (fun hHeld2=>?_)
      case hSd0_9=>exact K5.out
      clear hK K;refine tkA 10 100 ?_;refine wpAnyH_done (by kernel_rfl) ?_ _;have r2:=K5.2.2.2.2.2.2.2.2.2.2.1;have r10:=K5.2.2.2.2.2.2.2.2.2.2.2.1
      go_wp2
      go_roundw
      case rel=>exact⟨k+1,by omega,by go_num,by rw[STH.out],fun n hn h=>by
       by_cases e:n=k
       ·subst e;exact EB.out
       ·exact HAL2.out n hn (by omega),HD5.out⟩
      case measure=>simp[intOf];omega
    ·obtain rfl:k=lines.length:=by omega
     have HV:=mh (show lines.all (zJ l)=true from by
      rw[List.all_eq_true];intro y hy;obtain⟨n,hn,rfl⟩:=List.mem_iff_getElem.1 hy
      exact hall2 n hn hn)
     rw[List.take_length]at BD ⊢;obtain⟨A,eA⟩:∃A,jZ lines=A:=⟨_,rfl⟩;rw[eA]at BD FB ⊢;clear hall2 hb2 eA hk
     by_cases hs:268435456<A
     ·have E:=mh (BAD.out i hlt (farmAt_bad hlt (FB.trans (by rw[HV.out];simp;omega))))
      go_wp2
      go_ret
      exact⟨by rw[E.out];rfl,HBK.out⟩
     ·have OK:=mh (FOK.out (FB.trans (by rw[HV.out];simp;omega)))
      go_wp2
      go_roundw
      case rel=>exact⟨i+1,by omega,by go_num,fun j hj=>by
       by_cases e:j=i
       ·subst e;exact OK.out
       ·exact HAL.out j (by omega),HWK.out⟩
      case measure=>simp[intOf];omega
end Go.Proofs.YtefcalgjnkigjaaGreat
