/- Packed. -/
import Derived.Test.YtefcalgjnkigjaaGreatL31
set_option maxRecDepth 100000
set_option maxHeartbeats 16000000
open Go.Value renaming int → I
open Go.IntKind renaming i64 → O
namespace Go.Proofs.YtefcalgjnkigjaaGreat
open Go.RowKit Sc As
theorem pL {Q Q2:Nat→Prop}(d:Nat)(r:RY)(l:YLaw)(rl:RL)(x:LineF)(w:World)(h:YV Q w d r l)(hn:∀s∈l.sch,0≤s.num∧s.num≤15)(hx:LV Q2 w rl x)(hlo : -9223372036854775808≤x.sch) :
  Calls Tryz.prog 59 #[.agg (yCells r).toArray,.agg (jS rl).toArray] w (yC (zJ l x) w):=by
 have hs0:=h.sch.len;have hd0:=hx.due.1;have H:=mh h.sch;have HN:=mh hn;have HD:=mh hx.due;have HX:=mh hx;have LC:=lineB_cases l x;obtain⟨V,eV⟩:∃V,zJ l x=V:=⟨_,rfl⟩;have SO:=mh (fun (k:Nat) (hk:k<l.sch.length)=>show wR l x k=if zW x l.sch[k] then decide (chk28 (factOf x k) l.width=0) else decide (x.due.getD k 0=0) from by unfold wR;rw[List.getElem?_eq_getElem hk])
 have NEG:=mh (fun (h0:x.sch<0)=>show(bits BinOp.andNot IntKind.i64 x.sch (allV l.sch) != 0)=true from by
  obtain⟨n,h1,h2⟩:=allV_nat hn;rw[h2]
  exact sch_neg h1 h0 hlo)
 have hbt:=fun (W:World) (hW:Below w.heap.size w W) (cap:Nat)=>qWA d r.sp l.sch cap W (h.sch.below hW) hn
 rw[eV]at LC ⊢;clear eV hn hlo;obtain⟨sp,sn,sc,tp,tn', tc,ldue,llast,lmille,gp,gn,gc,cp,ev,un,wd⟩:=r;obtain⟨sch,steps,⟨ldue', llast', lmille'⟩,deg,cp', ev', un', wd'⟩:=l;obtain⟨dl,ls,dp,dn,dc,se,ki,ar,bo⟩:=rl;obtain⟨dl', ls', due,se', ki', ar', bo'⟩:=x;have e1:=h.sn;have e2:=h.tn;have e3:=h.due;have e4:=h.last;have e5:=h.mille;have e6:=h.gn;have e7:=h.cap;have e8:=h.env;have e9:=h.unit;have e10:=h.width;have g1:=hx.decl;have g2:=hx.sch;have g3:=hx.dn;have g4:=hx.season;have g5:=hx.kind;have g6:=hx.area;have g7:=hx.border;clear h hx;simp only at e1 e2 e3 e4 e5 e6 e7 e8 e9 e10 g1 g2 g3 g4 g5 g6 g7 H HN HD LC SO HX hs0 hd0 NEG hbt;subst e1 e2 e3 e4 e5 e6 e7 e8 e9 e10 g1 g2 g3 g4 g5 g6 g7;have BT:=mh (fun (W:World) (hW:Below w.heap.size w W)=>hbt W hW sc);clear hbt;have HA:=mh (qK mle (qK mle (brf w.heap.size w) (.cells #[.slice sp sch.length sc,.slice tp steps.length tc,I O ldue,I O llast,I O lmille,.slice gp deg.length gc,I O cp,I O ev,I O un,I O wd] 29)) (.cells #[I O dl,I O ls,.slice dp due.length dc,I O se,I O ki,I O ar,I O bo] 89));have SZ:=mh (show((w.alloc (.cells #[.slice sp sch.length sc,.slice tp steps.length tc,I O ldue,I O llast,I O lmille,.slice gp deg.length gc,I O cp,I O ev,I O un,I O wd] 29)).alloc (.cells #[I O dl,I O ls,.slice dp due.length dc,I O se,I O ki,I O ar,I O bo] 89)).heap.size=w.heap.size+2 by simp)
 have P:=mh (show((w.alloc (.cells #[.slice sp sch.length sc,.slice tp steps.length tc,I O ldue,I O llast,I O lmille,.slice gp deg.length gc,I O cp,I O ev,I O un,I O wd] 29)).alloc (.cells #[I O dl,I O ls,.slice dp due.length dc,I O se,I O ki,I O ar,I O bo] 89)).cell? ⟨w.heap.size+1,0,none⟩=some (I O dl)∧((w.alloc (.cells #[.slice sp sch.length sc,.slice tp steps.length tc,I O ldue,I O llast,I O lmille,.slice gp deg.length gc,I O cp,I O ev,I O un,I O wd] 29)).alloc (.cells #[I O dl,I O ls,.slice dp due.length dc,I O se,I O ki,I O ar,I O bo] 89)).cell? ⟨w.heap.size+1,1,none⟩=some (I O ls)∧((w.alloc (.cells #[.slice sp sch.length sc,.slice tp steps.length tc,I O ldue,I O llast,I O lmille,.slice gp deg.length gc,I O cp,I O ev,I O un,I O wd] 29)).alloc (.cells #[I O dl,I O ls,.slice dp due.length dc,I O se,I O ki,I O ar,I O bo] 89)).cell? ⟨w.heap.size+1,2,none⟩=some (.slice dp due.length dc)∧((w.alloc (.cells #[.slice sp sch.length sc,.slice tp steps.length tc,I O ldue,I O llast,I O lmille,.slice gp deg.length gc,I O cp,I O ev,I O un,I O wd] 29)).alloc (.cells #[I O dl,I O ls,.slice dp due.length dc,I O se,I O ki,I O ar,I O bo] 89)).cell? ⟨w.heap.size+1,3,none⟩=some (I O se)∧((w.alloc (.cells #[.slice sp sch.length sc,.slice tp steps.length tc,I O ldue,I O llast,I O lmille,.slice gp deg.length gc,I O cp,I O ev,I O un,I O wd] 29)).alloc (.cells #[I O dl,I O ls,.slice dp due.length dc,I O se,I O ki,I O ar,I O bo] 89)).cell? ⟨w.heap.size+1,4,none⟩=some (I O ki)∧((w.alloc (.cells #[.slice sp sch.length sc,.slice tp steps.length tc,I O ldue,I O llast,I O lmille,.slice gp deg.length gc,I O cp,I O ev,I O un,I O wd] 29)).alloc (.cells #[I O dl,I O ls,.slice dp due.length dc,I O se,I O ki,I O ar,I O bo] 89)).cell? ⟨w.heap.size+1,5,none⟩=some (I O ar)∧((w.alloc (.cells #[.slice sp sch.length sc,.slice tp steps.length tc,I O ldue,I O llast,I O lmille,.slice gp deg.length gc,I O cp,I O ev,I O un,I O wd] 29)).alloc (.cells #[I O dl,I O ls,.slice dp due.length dc,I O se,I O ki,I O ar,I O bo] 89)).cell? ⟨w.heap.size+1,6,none⟩=some (I O bo)∧((w.alloc (.cells #[.slice sp sch.length sc,.slice tp steps.length tc,I O ldue,I O llast,I O lmille,.slice gp deg.length gc,I O cp,I O ev,I O un,I O wd] 29)).alloc (.cells #[I O dl,I O ls,.slice dp due.length dc,I O se,I O ki,I O ar,I O bo] 89)).cell? ⟨w.heap.size,0,none⟩=some (.slice sp sch.length sc)∧((w.alloc (.cells #[.slice sp sch.length sc,.slice tp steps.length tc,I O ldue,I O llast,I O lmille,.slice gp deg.length gc,I O cp,I O ev,I O un,I O wd] 29)).alloc (.cells #[I O dl,I O ls,.slice dp due.length dc,I O se,I O ki,I O ar,I O bo] 89)).cell? ⟨w.heap.size,9,none⟩=some (I O wd) from by
  have c:=cwn (w.alloc (.cells #[.slice sp sch.length sc,.slice tp steps.length tc,I O ldue,I O llast,I O lmille,.slice gp deg.length gc,I O cp,I O ev,I O un,I O wd] 29)) #[I O dl,I O ls,.slice dp due.length dc,I O se,I O ki,I O ar,I O bo] 89;simp only[World.size_alloc]at c
  exact⟨c 0,c 1,c 2,c 3,c 4,c 5,c 6,
   ((qK mle (brf (w.alloc (.cells #[.slice sp sch.length sc,.slice tp steps.length tc,I O ldue,I O llast,I O lmille,.slice gp deg.length gc,I O cp,I O ev,I O un,I O wd] 29)).heap.size (w.alloc (.cells #[.slice sp sch.length sc,.slice tp steps.length tc,I O ldue,I O llast,I O lmille,.slice gp deg.length gc,I O cp,I O ev,I O un,I O wd] 29))) (.cells #[I O dl,I O ls,.slice dp due.length dc,I O se,I O ki,I O ar,I O bo] 89)).cell (p:=⟨w.heap.size,0,none⟩) (by simp)).trans (cwn _ _ _ 0),((qK mle (brf (w.alloc (.cells #[.slice sp sch.length sc,.slice tp steps.length tc,I O ldue,I O llast,I O lmille,.slice gp deg.length gc,I O cp,I O ev,I O un,I O wd] 29)).heap.size (w.alloc (.cells #[.slice sp sch.length sc,.slice tp steps.length tc,I O ldue,I O llast,I O lmille,.slice gp deg.length gc,I O cp,I O ev,I O un,I O wd] 29))) (.cells #[I O dl,I O ls,.slice dp due.length dc,I O se,I O ki,I O ar,I O bo] 89)).cell (p:=⟨w.heap.size,9,none⟩) (by simp)).trans (cwn _ _ _ 9)⟩)
 obtain⟨B,eB⟩:∃B,bits BinOp.andNot IntKind.i64 ls (allV sch)=B:=⟨_,rfl⟩;obtain⟨A,eA⟩:∃A,allV sch=A:=⟨_,rfl⟩;rw[eA]at eB;rw[eA,eB]at LC NEG;rw[eA]at BT;clear eA;simp only[yCells,jS]
 by_cases n0:ls<0
 ·have HV:=mh (show V=false from by
   have:=NEG.out n0
   rcases LC with⟨l1,l2⟩|⟨l1,l2⟩|⟨l1,l2⟩|⟨l1,l2⟩|⟨l1,l2⟩
   ·exact l2
   all_goals (rw[this]at l1;cases l1))
  clear LC eB
  go_enter Tryz.func59,Tryz.ntmps59
  go_wp2
  generalize (w.alloc (.cells #[.slice sp sch.length sc,.slice tp steps.length tc,I O ldue,I O llast,I O lmille,.slice gp deg.length gc,I O cp,I O ev,I O un,I O wd] 29)).alloc (.cells #[I O dl,I O ls,.slice dp due.length dc,I O se,I O ki,I O ar,I O bo] 89)=W2 at *;obtain⟨p0,p1,p2,p3,p4,p5,p6,q0,q9⟩:=P.out
  go_quiet ((go_at_call 92;exact Calls.quiet_of_same (Calls.turn (BT.out _ (qH HA.out HA.size (qQ _ _))))))
  go_wp2
  go_ret
  exact⟨by rw[HV.out];rfl,qH HA.out HA.size (qQ _ _)⟩
 clear NEG
 rcases LC with⟨l1,l2⟩|⟨l1,l2,l3⟩|⟨l1,l2,l3,l4⟩|⟨l1,l2,l3,l4,l5⟩|⟨l1,l2,l3,l4,l5⟩
 ·subst l2
  rw[← eB]at l1;clear eB
  go_enter Tryz.func59,Tryz.ntmps59
  go_wp2
  generalize (w.alloc (.cells #[.slice sp sch.length sc,.slice tp steps.length tc,I O ldue,I O llast,I O lmille,.slice gp deg.length gc,I O cp,I O ev,I O un,I O wd] 29)).alloc (.cells #[I O dl,I O ls,.slice dp due.length dc,I O se,I O ki,I O ar,I O bo] 89)=W2 at *;obtain⟨p0,p1,p2,p3,p4,p5,p6,q0,q9⟩:=P.out
  go_quiet ((go_at_call 92;exact Calls.quiet_of_same (Calls.turn (BT.out _ (qH HA.out HA.size (qQ _ _))))))
  go_wp2
  go_ret
  exact⟨rfl,qH HA.out HA.size (qQ _ _)⟩
 ·subst l3
  rw[← eB]at l1;clear eB;have l2' : ((due.length:Int) != (sch.length:Int))=true:=by rw[bne_iff_ne];omega
  clear l2
  go_enter Tryz.func59,Tryz.ntmps59
  go_wp2
  generalize (w.alloc (.cells #[.slice sp sch.length sc,.slice tp steps.length tc,I O ldue,I O llast,I O lmille,.slice gp deg.length gc,I O cp,I O ev,I O un,I O wd] 29)).alloc (.cells #[I O dl,I O ls,.slice dp due.length dc,I O se,I O ki,I O ar,I O bo] 89)=W2 at *;obtain⟨p0,p1,p2,p3,p4,p5,p6,q0,q9⟩:=P.out
  go_quiet ((go_at_call 92;exact Calls.quiet_of_same (Calls.turn (BT.out _ (qH HA.out HA.size (qQ _ _))))))
  go_wp2
  go_ret
  exact⟨rfl,qH HA.out HA.size (qQ _ _)⟩
 ·subst l4
  rw[← eB]at l1;clear eB;have l2' : ((due.length:Int) != (sch.length:Int))=false:=by rw[l2];exact bne_self_eq_false _
  have L2:=mh l2;clear l2
  go_enter Tryz.func59,Tryz.ntmps59
  go_wp2
  generalize (w.alloc (.cells #[.slice sp sch.length sc,.slice tp steps.length tc,I O ldue,I O llast,I O lmille,.slice gp deg.length gc,I O cp,I O ev,I O un,I O wd] 29)).alloc (.cells #[I O dl,I O ls,.slice dp due.length dc,I O se,I O ki,I O ar,I O bo] 89)=W2 at *;obtain⟨p0,p1,p2,p3,p4,p5,p6,q0,q9⟩:=P.out
  go_quiet ((go_at_call 92;exact Calls.quiet_of_same (Calls.turn (BT.out _ (qH HA.out HA.size (qQ _ _))))))
  go_wp2
  go_ret
  exact⟨rfl,qH HA.out HA.size (qQ _ _)⟩
 ·subst l5
  rw[← eB]at l1;clear eB;have l2' : ((due.length:Int) != (sch.length:Int))=false:=by rw[l2];exact bne_self_eq_false _
  have L2:=mh l2;clear l2
  go_enter Tryz.func59,Tryz.ntmps59
  go_wp2
  generalize (w.alloc (.cells #[.slice sp sch.length sc,.slice tp steps.length tc,I O ldue,I O llast,I O lmille,.slice gp deg.length gc,I O cp,I O ev,I O un,I O wd] 29)).alloc (.cells #[I O dl,I O ls,.slice dp due.length dc,I O se,I O ki,I O ar,I O bo] 89)=W2 at *;obtain⟨p0,p1,p2,p3,p4,p5,p6,q0,q9⟩:=P.out
  go_quiet ((go_at_call 92;exact Calls.quiet_of_same (Calls.turn (BT.out _ (qH HA.out HA.size (qQ _ _))))))
  go_wp2
  go_ret
  exact⟨rfl,qH HA.out HA.size (qQ _ _)⟩
 rw[← eB]at l1;have EV:=mh l5;have l2' : ((due.length:Int) != (sch.length:Int))=false:=by rw[l2];exact bne_self_eq_false _
 have L2:=mh l2;clear l2 l5 eB;obtain⟨SK,eSK⟩:∃SK,wR ⟨sch,steps,⟨ldue,llast,lmille⟩,deg,cp,ev,un,wd⟩ ⟨dl,ls,due,se,ki,ar,bo⟩=SK:=⟨_,rfl⟩;rw[eSK]at EV SO;clear eSK
 go_enter Tryz.func59,Tryz.ntmps59
 go_wp2
 generalize (w.alloc (.cells #[.slice sp sch.length sc,.slice tp steps.length tc,I O ldue,I O llast,I O lmille,.slice gp deg.length gc,I O cp,I O ev,I O un,I O wd] 29)).alloc (.cells #[I O dl,I O ls,.slice dp due.length dc,I O se,I O ki,I O ar,I O bo] 89)=W2 at *;obtain⟨p0,p1,p2,p3,p4,p5,p6,q0,q9⟩:=P.out
 go_quiet ((go_at_call 92;exact Calls.quiet_of_same (Calls.turn (BT.out _ (qH HA.out HA.size (qQ _ _))))))
 go_wp2
 have S1:=mh (show w.heap.size<W2.heap.size by rw[SZ.out];omega);have S2:=mh (show w.heap.size+1<W2.heap.size by rw[SZ.out];omega);clear BT SZ
 go_loopw [5] (fun i wr=>∃k:Nat,k≤sch.length∧i=I O k∧(∀j,j<k→SK j=true)∧Below W2.heap.size W2 wr) (fun i _=>sch.length - (intOf i).toNat)
 case atStart=>exact⟨0,Nat.zero_le _,rfl,fun j hj=>absurd hj (Nat.not_lt_zero j),qQ _ _⟩
 case round =>
  obtain⟨wp,rfl⟩:∃wp:World,wp=wr:=⟨_,rfl⟩;obtain⟨k,hk,rfl,hall,hb⟩:=hrel;have HAL:=mh hall;have HBP:=mh (qZ mle HA.out hb);have HWP:=mh hb;have hk0:(0:Int)≤(k:Int):=inn _;have hd1:=HD.len;have PW:=mh ((kd hb <| kd hb <| k1 hb) P.out)
  by_cases hlt:k<sch.length
  ·have hk1:(k:Int)<(sch.length:Int):=by omega
   have hk2:(k:Int)<(due.length:Int):=by have:=L2.out;omega
   have hkd:k<due.length:=by have:=L2.out;omega
   obtain⟨b,off,y,rfl,hbl,hC,hv⟩:=(H.below HBP.out).at hlt;have hnum:=hv.num;have hb15:=HN.out _ (List.getElem_mem hlt);have SKE:=SO.out k hlt;unfold zW at SKE;rw[← hnum]at hb15 SKE;obtain⟨c0,c1,c2,c3,c4,c5,c6,c7,c8,c9⟩:=hC;clear hv hnum;obtain⟨num,nm,⟨o,tn,tm,tq,tl,tz⟩,bp,bn,bc,least,ex,needs⟩:=y;simp only at c0 c1 c2 c3 c4 c5 c6 c7 c8 c9 hb15 SKE;have NM:=mh (fun (W:World)=>kZ ⟨dl,ls,dp,due.length,dc,se,ki,ar,bo⟩ ⟨num,nm,⟨o,tn,tm,tq,tl,tz⟩,bp,bn,bc,least,ex,needs⟩ W hb15.1 hb15.2);have FC:=mh (fun (W:World) (hW:Below w.heap.size w W)=>kR ⟨dl,ls,dp,due.length,dc,se,ki,ar,bo⟩ ⟨dl,ls,due,se,ki,ar,bo⟩ k W (HX.below hW) hkd);obtain⟨bd,offd,ed,hbd,hcd⟩:=HD.at hkd
   cases ed
   obtain⟨u,eu⟩:∃u,due.getD k 0=u:=⟨_,rfl⟩;rw[eu]at hcd;have hcd:=(HBP.cell (p:=⟨bd,offd+k,none⟩) hbd).trans hcd;simp only[eu]at SKE;obtain⟨⟨fd,fu,fs,fk,fa,fb⟩,eF⟩:∃F,factOf ⟨dl,ls,due,se,ki,ar,bo⟩ k=F:=⟨_,rfl⟩;rw[eF]at FC SKE;have CK:=mh (fun (W:World)=>show Calls Tryz.prog 93 #[.agg (dB ⟨fd,fu,fs,fk,fa,fb⟩).toArray,I O wd] W (fun e w' => e = .returned (I O (chk28 ⟨fd,fu,fs,fk,fa,fb⟩ wd))∧Below W.heap.size W w') from kJ fd fu fs fk fa fb wd W);obtain⟨cv,ecv⟩:∃v,chk28 ⟨fd,fu,fs,fk,fa,fb⟩ wd=v:=⟨_,rfl⟩;rw[ecv]at CK SKE;obtain⟨bt,ebt⟩:∃b,zH ls num=b:=⟨_,rfl⟩;simp only at NM;rw[ebt]at NM SKE;simp only[jS,zN]at NM FC;have SE:=mh SKE;have U1:=mh (show w.heap.size<wp.heap.size from nll S1.out hb.size);have U2:=mh (show w.heap.size+1<wp.heap.size from nll S2.out hb.size);have U3:=mh hbl;have U4:=mh (show bd<wp.heap.size from nll hbd HBP.size);have KA:=mh (show wp.cell? ⟨w.heap.size+1,0,none⟩=some (I O dl)∧wp.cell? ⟨w.heap.size+1,1,none⟩=some (I O ls)∧wp.cell? ⟨w.heap.size+1,2,none⟩=some (.slice (some ⟨bd,offd,none⟩) due.length dc)∧wp.cell? ⟨w.heap.size+1,3,none⟩=some (I O se)∧wp.cell? ⟨w.heap.size+1,4,none⟩=some (I O ki)∧wp.cell? ⟨w.heap.size+1,5,none⟩=some (I O ar)∧wp.cell? ⟨w.heap.size+1,6,none⟩=some (I O bo)∧wp.cell? ⟨w.heap.size,0,none⟩=some (.slice (some ⟨b,off,none⟩) sch.length sc)∧wp.cell? ⟨w.heap.size,9,none⟩=some (I O wd)∧wp.cell? ⟨b,off+k*10,none⟩=some (I O num)∧wp.cell? ⟨b,off+k*10+1,none⟩=some (.string nm)∧wp.cell? ⟨b,off+k*10+2,none⟩=some (I O o)∧wp.cell? ⟨b,off+k*10+3,none⟩=some (I O tn)∧wp.cell? ⟨b,off+k*10+4,none⟩=some (I O tm)∧wp.cell? ⟨b,off+k*10+5,none⟩=some (.slice tq tl tz)∧wp.cell? ⟨b,off+k*10+6,none⟩=some (.slice bp bn bc)∧wp.cell? ⟨b,off+k*10+7,none⟩=some (I O least)∧wp.cell? ⟨b,off+k*10+8,none⟩=some (I O ex)∧wp.cell? ⟨b,off+k*10+9,none⟩=some (.bool needs)∧wp.cell? ⟨bd,offd+k,none⟩=some (I O u) from⟨PW.1,PW.2.1,PW.2.2.1,PW.2.2.2.1,PW.2.2.2.2.1,PW.2.2.2.2.2.1,PW.2.2.2.2.2.2.1,PW.2.2.2.2.2.2.2.1,PW.2.2.2.2.2.2.2.2,c0,c1,c2,c3,c4,c5,c6,c7,c8,c9,hcd⟩);have KD:=mh (show wp.drew.cell? ⟨w.heap.size+1,0,none⟩=some (I O dl)∧wp.drew.cell? ⟨w.heap.size+1,1,none⟩=some (I O ls)∧wp.drew.cell? ⟨w.heap.size+1,2,none⟩=some (.slice (some ⟨bd,offd,none⟩) due.length dc)∧wp.drew.cell? ⟨w.heap.size+1,3,none⟩=some (I O se)∧wp.drew.cell? ⟨w.heap.size+1,4,none⟩=some (I O ki)∧wp.drew.cell? ⟨w.heap.size+1,5,none⟩=some (I O ar)∧wp.drew.cell? ⟨w.heap.size+1,6,none⟩=some (I O bo)∧wp.drew.cell? ⟨w.heap.size,0,none⟩=some (.slice (some ⟨b,off,none⟩) sch.length sc)∧wp.drew.cell? ⟨w.heap.size,9,none⟩=some (I O wd)∧wp.drew.cell? ⟨b,off+k*10,none⟩=some (I O num)∧wp.drew.cell? ⟨b,off+k*10+1,none⟩=some (.string nm)∧wp.drew.cell? ⟨b,off+k*10+2,none⟩=some (I O o)∧wp.drew.cell? ⟨b,off+k*10+3,none⟩=some (I O tn)∧wp.drew.cell? ⟨b,off+k*10+4,none⟩=some (I O tm)∧wp.drew.cell? ⟨b,off+k*10+5,none⟩=some (.slice tq tl tz)∧wp.drew.cell? ⟨b,off+k*10+6,none⟩=some (.slice bp bn bc)∧wp.drew.cell? ⟨b,off+k*10+7,none⟩=some (I O least)∧wp.drew.cell? ⟨b,off+k*10+8,none⟩=some (I O ex)∧wp.drew.cell? ⟨b,off+k*10+9,none⟩=some (.bool needs)∧wp.drew.cell? ⟨bd,offd+k,none⟩=some (I O u) from KA.out)
   have NOALL:=mh (fun (h:SK k=false)=>show(List.range sch.length).all SK=false from by rw[← Bool.not_eq_true,List.all_eq_true];intro h2;rw[h2 k (List.mem_range.2 hlt)]at h;cases h);obtain⟨p0,p1,p2,p3,p4,p5,p6,q0,q9⟩:=PW.out;clear SKE ecv ebt eu eF hb hall hb15 hbl hbd hk hlt
   cases bt
   ·by_cases hu:u=0
    ·have hu' : (u != 0)=false:=by simp[hu]
     have OK:=mh (show SK k=true from by rw[SE.out,if_neg (by decide)];exact dqt hu);clear hu
     go_wp2_with fail
     refine wp_region_held_drew (S:=fun w' => w'.cell? ⟨w.heap.size+1,0,none⟩=some (I O dl)∧w'.cell? ⟨w.heap.size+1,1,none⟩=some (I O ls)∧w'.cell? ⟨w.heap.size+1,2,none⟩=some (.slice (some ⟨bd,offd,none⟩) due.length dc)∧w'.cell? ⟨w.heap.size+1,3,none⟩=some (I O se)∧w'.cell? ⟨w.heap.size+1,4,none⟩=some (I O ki)∧w'.cell? ⟨w.heap.size+1,5,none⟩=some (I O ar)∧w'.cell? ⟨w.heap.size+1,6,none⟩=some (I O bo)∧w'.cell? ⟨w.heap.size,0,none⟩=some (.slice (some ⟨b,off,none⟩) sch.length sc)∧w'.cell? ⟨w.heap.size,9,none⟩=some (I O wd)∧w'.cell? ⟨b,off+k*10,none⟩=some (I O num)∧w'.cell? ⟨b,off+k*10+1,none⟩=some (.string nm)∧w'.cell? ⟨b,off+k*10+2,none⟩=some (I O o)∧w'.cell? ⟨b,off+k*10+3,none⟩=some (I O tn)∧w'.cell? ⟨b,off+k*10+4,none⟩=some (I O tm)∧w'.cell? ⟨b,off+k*10+5,none⟩=some (.slice tq tl tz)∧w'.cell? ⟨b,off+k*10+6,none⟩=some (.slice bp bn bc)∧w'.cell? ⟨b,off+k*10+7,none⟩=some (I O least)∧w'.cell? ⟨b,off+k*10+8,none⟩=some (I O ex)∧w'.cell? ⟨b,off+k*10+9,none⟩=some (.bool needs)∧w'.cell? ⟨bd,offd+k,none⟩=some (I O u)) (by kernel_rfl) KD.out (fun hHeld=>?_)
     refine tkA 0 44 ?_
     simp only[Act.put,mnA,mnB,mnC];refine tkD 1 45 ?_;refine tkD 2 46 ?_;refine tkD 3 47 ?_;refine tkD 4 48 ?_;refine tkD 5 49 ?_;refine rdA 6 50 (fun K hK=>?_);go_simp;(with_reducible refine cmo (NM.out _) ?_);rintro e w5 ⟨rfl,hb5⟩;have HB5:=mh (qZ mle HBP.drew hb5);have HC5:=mh (qZ mle HWP.drew hb5);have K5:=mh ((kd hb5 <| kd hb5 <| kd hb5 <| kd hb5 <| kc hb5 <| kc hb5 <| kc hb5 <| k1 hb5) KA.out);have V1:=mh (nll U1.out hb5.size);have V2:=mh (nll U2.out hb5.size);have V3:=mh (nll U3.out hb5.size);have V4:=mh (nll U4.out hb5.size);clear hb5
     go_wp2_with fail
     refine hK.out _ _ ?hSa0_6 (fun hHeld2=>?_)
     case hSa0_6=>exact K5.out
     clear hK K;refine tkD 7 51 ?_;refine tkD 8 52 ?_;refine tkD 9 53 ?_;refine tkD 10 54 ?_;refine tkD 11 55 ?_;refine tkD 12 56 ?_;refine tkD 13 57 ?_;refine tkD 14 58 ?_;refine tkD 15 59 ?_;refine tkD 16 60 ?_;refine tkD 17 61 ?_;refine tkD 18 62 ?_;refine tkD 19 63 ?_;refine tkD 20 64 ?_;refine tkD 21 65 ?_;refine tkD 22 66 ?_;refine rdA 23 67 (fun K hK=>?_);go_simp;(with_reducible refine cmo (NM.out _) ?_);rintro e w6 ⟨rfl,hb6⟩;have HB6:=mh (qZ mle HB5.out hb6);have HC6:=mh (qZ mle HC5.out hb6);have K6:=mh ((kd hb6 <| kd hb6 <| kd hb6 <| kd hb6 <| kc hb6 <| kc hb6 <| kc hb6 <| k1 hb6) K5.out);have X1:=mh (nll V1.out hb6.size);have X2:=mh (nll V2.out hb6.size);have X3:=mh (nll V3.out hb6.size);have X4:=mh (nll V4.out hb6.size);clear hb6
     go_wp2_with fail
     refine hK.out _ _ ?hSa0_23 (fun hHeld2=>?_)
     case hSa0_23=>exact K6.out
     clear hK K;refine tkD 24 68 ?_;refine tkB 25 69 ?_;refine tkB 26 70 ?_;refine tkB 27 71 ?_;refine tkB 28 72 ?_;refine tkB 29 73 ?_;refine tkB 30 74 ?_;refine tkE 31 75 ?_;refine tkD 32 76 ?_;refine tkA 33 77 ?_;refine wpAnyH_done (by kernel_rfl) ?_ _
     go_wp2
     go_roundw
     case rel=>exact⟨k+1,by omega,by go_num,fun j hj=>by
      by_cases e:j=k
      ·subst e;exact OK.out
      ·exact HAL.out j (by omega),HC6.out⟩
     case measure=>simp[intOf];omega
    ·have hu' : (u != 0)=true:=by simpa using hu
     have BAD:=mh (show SK k=false from by rw[SE.out,if_neg (by decide)];exact dqf hu);clear hu
     go_wp2_with fail
     refine wp_region_held_drew (S:=fun w' => w'.cell? ⟨w.heap.size+1,0,none⟩=some (I O dl)∧w'.cell? ⟨w.heap.size+1,1,none⟩=some (I O ls)∧w'.cell? ⟨w.heap.size+1,2,none⟩=some (.slice (some ⟨bd,offd,none⟩) due.length dc)∧w'.cell? ⟨w.heap.size+1,3,none⟩=some (I O se)∧w'.cell? ⟨w.heap.size+1,4,none⟩=some (I O ki)∧w'.cell? ⟨w.heap.size+1,5,none⟩=some (I O ar)∧w'.cell? ⟨w.heap.size+1,6,none⟩=some (I O bo)∧w'.cell? ⟨w.heap.size,0,none⟩=some (.slice (some ⟨b,off,none⟩) sch.length sc)∧w'.cell? ⟨w.heap.size,9,none⟩=some (I O wd)∧w'.cell? ⟨b,off+k*10,none⟩=some (I O num)∧w'.cell? ⟨b,off+k*10+1,none⟩=some (.string nm)∧w'.cell? ⟨b,off+k*10+2,none⟩=some (I O o)∧w'.cell? ⟨b,off+k*10+3,none⟩=some (I O tn)∧w'.cell? ⟨b,off+k*10+4,none⟩=some (I O tm)∧w'.cell? ⟨b,off+k*10+5,none⟩=some (.slice tq tl tz)∧w'.cell? ⟨b,off+k*10+6,none⟩=some (.slice bp bn bc)∧w'.cell? ⟨b,off+k*10+7,none⟩=some (I O least)∧w'.cell? ⟨b,off+k*10+8,none⟩=some (I O ex)∧w'.cell? ⟨b,off+k*10+9,none⟩=some (.bool needs)∧w'.cell? ⟨bd,offd+k,none⟩=some (I O u)) (by kernel_rfl) KD.out (fun hHeld=>?_)
     refine tkA 0 44 ?_
     simp only[Act.put,mnA,mnB,mnC];refine tkD 1 45 ?_;refine tkD 2 46 ?_;refine tkD 3 47 ?_;refine tkD 4 48 ?_;refine tkD 5 49 ?_;refine rdA 6 50 (fun K hK=>?_);go_simp;(with_reducible refine cmo (NM.out _) ?_);rintro e w5 ⟨rfl,hb5⟩;have HB5:=mh (qZ mle HBP.drew hb5);have HC5:=mh (qZ mle HWP.drew hb5);have K5:=mh ((kd hb5 <| kd hb5 <| kd hb5 <| kd hb5 <| kc hb5 <| kc hb5 <| kc hb5 <| k1 hb5) KA.out);have V1:=mh (nll U1.out hb5.size);have V2:=mh (nll U2.out hb5.size);have V3:=mh (nll U3.out hb5.size);have V4:=mh (nll U4.out hb5.size);clear hb5
     go_wp2_with fail
     refine hK.out _ _ ?hSb0_6 (fun hHeld2=>?_)
     case hSb0_6=>exact K5.out
     clear hK K;refine tkD 7 51 ?_;refine tkD 8 52 ?_;refine tkD 9 53 ?_;refine tkD 10 54 ?_;refine tkD 11 55 ?_;refine tkD 12 56 ?_;refine tkD 13 57 ?_;refine tkD 14 58 ?_;refine tkD 15 59 ?_;refine tkD 16 60 ?_;refine tkB 17 61 ?_;refine tkB 18 62 ?_;refine tkB 19 63 ?_;refine tkB 20 64 ?_;refine tkB 21 65 ?_;refine tkB 22 66 ?_;refine tkB 23 67 ?_;refine tkB 24 68 ?_;refine tkB 25 69 ?_;refine tkB 26 70 ?_;refine tkB 27 71 ?_;refine tkB 28 72 ?_;refine tkB 29 73 ?_;refine tkB 30 74 ?_;refine tkB 31 75 ?_;refine tkE 32 76 ?_;refine tkA 33 77 ?_;refine wpAnyH_done (by kernel_rfl) ?_ _
     go_wp2
     go_ret
     exact⟨by rw[EV.out,NOALL.out BAD.out];rfl,HB5.out⟩
   ·by_cases hcv:cv=0
    ·have hc' : (cv != 0)=false:=by simp[hcv]
     have OK:=mh (show SK k=true from by rw[SE.out,if_pos rfl];exact dqt hcv);clear hcv
     go_wp2_with fail
     refine wp_region_held_drew (S:=fun w' => w'.cell? ⟨w.heap.size+1,0,none⟩=some (I O dl)∧w'.cell? ⟨w.heap.size+1,1,none⟩=some (I O ls)∧w'.cell? ⟨w.heap.size+1,2,none⟩=some (.slice (some ⟨bd,offd,none⟩) due.length dc)∧w'.cell? ⟨w.heap.size+1,3,none⟩=some (I O se)∧w'.cell? ⟨w.heap.size+1,4,none⟩=some (I O ki)∧w'.cell? ⟨w.heap.size+1,5,none⟩=some (I O ar)∧w'.cell? ⟨w.heap.size+1,6,none⟩=some (I O bo)∧w'.cell? ⟨w.heap.size,0,none⟩=some (.slice (some ⟨b,off,none⟩) sch.length sc)∧w'.cell? ⟨w.heap.size,9,none⟩=some (I O wd)∧w'.cell? ⟨b,off+k*10,none⟩=some (I O num)∧w'.cell? ⟨b,off+k*10+1,none⟩=some (.string nm)∧w'.cell? ⟨b,off+k*10+2,none⟩=some (I O o)∧w'.cell? ⟨b,off+k*10+3,none⟩=some (I O tn)∧w'.cell? ⟨b,off+k*10+4,none⟩=some (I O tm)∧w'.cell? ⟨b,off+k*10+5,none⟩=some (.slice tq tl tz)∧w'.cell? ⟨b,off+k*10+6,none⟩=some (.slice bp bn bc)∧w'.cell? ⟨b,off+k*10+7,none⟩=some (I O least)∧w'.cell? ⟨b,off+k*10+8,none⟩=some (I O ex)∧w'.cell? ⟨b,off+k*10+9,none⟩=some (.bool needs)∧w'.cell? ⟨bd,offd+k,none⟩=some (I O u)) (by kernel_rfl) KD.out (fun hHeld=>?_)
     refine tkA 0 44 ?_
     simp only[Act.put,mnA,mnB,mnC];refine tkD 1 45 ?_;refine tkD 2 46 ?_;refine tkD 3 47 ?_;refine tkD 4 48 ?_;refine tkD 5 49 ?_;refine rdA 6 50 (fun K hK=>?_);go_simp;(with_reducible refine cmo (NM.out _) ?_);rintro e w5 ⟨rfl,hb5⟩;have HB5:=mh (qZ mle HBP.drew hb5);have HC5:=mh (qZ mle HWP.drew hb5);have K5:=mh ((kd hb5 <| kd hb5 <| kd hb5 <| kd hb5 <| kc hb5 <| kc hb5 <| kc hb5 <| k1 hb5) KA.out);have V1:=mh (nll U1.out hb5.size);have V2:=mh (nll U2.out hb5.size);have V3:=mh (nll U3.out hb5.size);have V4:=mh (nll U4.out hb5.size);clear hb5
     go_wp2_with fail
     refine hK.out _ _ ?hSc0_6 (fun hHeld2=>?_)
     case hSc0_6=>exact K5.out
     clear hK K;refine tkD 7 51 ?_;refine tkD 8 52 ?_;refine tkB 9 53 ?_;refine tkB 10 54 ?_;refine tkB 11 55 ?_;refine tkB 12 56 ?_;refine tkB 13 57 ?_;refine tkE 14 58 ?_;refine tkD 15 59 ?_;refine tkD 16 60 ?_;refine tkD 17 61 ?_;refine tkD 18 62 ?_;refine tkD 19 63 ?_;refine tkD 20 64 ?_;refine tkD 21 65 ?_;refine tkD 22 66 ?_;refine rdA 23 67 (fun K hK=>?_);go_simp;(with_reducible refine cmo (NM.out _) ?_);rintro e w6 ⟨rfl,hb6⟩;have HB6:=mh (qZ mle HB5.out hb6);have HC6:=mh (qZ mle HC5.out hb6);have K6:=mh ((kd hb6 <| kd hb6 <| kd hb6 <| kd hb6 <| kc hb6 <| kc hb6 <| kc hb6 <| k1 hb6) K5.out);have X1:=mh (nll V1.out hb6.size);have X2:=mh (nll V2.out hb6.size);have X3:=mh (nll V3.out hb6.size);have X4:=mh (nll V4.out hb6.size);clear hb6
     go_wp2_with fail
     refine hK.out _ _ ?hSc0_23 (fun hHeld2=>?_)
     case hSc0_23=>exact K6.out
     clear hK K;refine tkD 24 68 ?_;refine tkD 25 69 ?_;refine tkD 26 70 ?_;refine tkD 28 72 ?_;refine tkD 29 73 ?_;refine rdA 27 71 (fun K hK=>?_);go_simp;(with_reducible refine cmo (FC.out _ HB6.out) ?_);rintro e w7 ⟨rfl,hb7⟩;have HB7:=mh (qZ mle HB6.out hb7);have HC7:=mh (qZ mle HC6.out hb7);have K7:=mh ((kd hb7 <| kd hb7 <| kd hb7 <| kd hb7 <| kc hb7 <| kc hb7 <| kc hb7 <| k1 hb7) K6.out);have Y1:=mh (nll X1.out hb7.size);have Y2:=mh (nll X2.out hb7.size);have Y3:=mh (nll X3.out hb7.size);have Y4:=mh (nll X4.out hb7.size);clear hb7
     go_wp2_with fail
     refine hK.out _ _ ?hSc0_27 (fun hHeld2=>?_)
     case hSc0_27=>exact K7.out
     clear hK K;refine rdA 30 74 (fun K hK=>?_);go_simp;(with_reducible refine cmo (CK.out _) ?_);rintro e w8 ⟨rfl,hb8⟩;have HB8:=mh (qZ mle HB7.out hb8);have HC8:=mh (qZ mle HC7.out hb8);have K8:=mh ((kd hb8 <| kd hb8 <| kd hb8 <| kd hb8 <| kc hb8 <| kc hb8 <| kc hb8 <| k1 hb8) K7.out);have Z1:=mh (nll Y1.out hb8.size);have Z2:=mh (nll Y2.out hb8.size);have Z3:=mh (nll Y3.out hb8.size);have Z4:=mh (nll Y4.out hb8.size);clear hb8
     go_wp2_with fail
     refine hK.out _ _ ?hSc0_30 (fun hHeld2=>?_)
     case hSc0_30=>exact K8.out
     clear hK K;refine tkD 31 75 ?_;refine tkD 32 76 ?_;refine tkA 33 77 ?_;refine wpAnyH_done (by kernel_rfl) ?_ _
     go_wp2
     go_roundw
     case rel=>exact⟨k+1,by omega,by go_num,fun j hj=>by
      by_cases e:j=k
      ·subst e;exact OK.out
      ·exact HAL.out j (by omega),HC8.out⟩
     case measure=>simp[intOf];omega
    ·have hc' : (cv != 0)=true:=by simpa using hcv
     have BAD:=mh (show SK k=false from by rw[SE.out,if_pos rfl];exact dqf hcv);clear hcv
     go_wp2_with fail
     refine wp_region_held_drew (S:=fun w' => w'.cell? ⟨w.heap.size+1,0,none⟩=some (I O dl)∧w'.cell? ⟨w.heap.size+1,1,none⟩=some (I O ls)∧w'.cell? ⟨w.heap.size+1,2,none⟩=some (.slice (some ⟨bd,offd,none⟩) due.length dc)∧w'.cell? ⟨w.heap.size+1,3,none⟩=some (I O se)∧w'.cell? ⟨w.heap.size+1,4,none⟩=some (I O ki)∧w'.cell? ⟨w.heap.size+1,5,none⟩=some (I O ar)∧w'.cell? ⟨w.heap.size+1,6,none⟩=some (I O bo)∧w'.cell? ⟨w.heap.size,0,none⟩=some (.slice (some ⟨b,off,none⟩) sch.length sc)∧w'.cell? ⟨w.heap.size,9,none⟩=some (I O wd)∧w'.cell? ⟨b,off+k*10,none⟩=some (I O num)∧w'.cell? ⟨b,off+k*10+1,none⟩=some (.string nm)∧w'.cell? ⟨b,off+k*10+2,none⟩=some (I O o)∧w'.cell? ⟨b,off+k*10+3,none⟩=some (I O tn)∧w'.cell? ⟨b,off+k*10+4,none⟩=some (I O tm)∧w'.cell? ⟨b,off+k*10+5,none⟩=some (.slice tq tl tz)∧w'.cell? ⟨b,off+k*10+6,none⟩=some (.slice bp bn bc)∧w'.cell? ⟨b,off+k*10+7,none⟩=some (I O least)∧w'.cell? ⟨b,off+k*10+8,none⟩=some (I O ex)∧w'.cell? ⟨b,off+k*10+9,none⟩=some (.bool needs)∧w'.cell? ⟨bd,offd+k,none⟩=some (I O u)) (by kernel_rfl) KD.out (fun hHeld=>?_)
     refine tkA 0 44 ?_
     simp only[Act.put,mnA,mnB,mnC];refine tkD 1 45 ?_;refine tkD 2 46 ?_;refine tkD 3 47 ?_;refine tkD 4 48 ?_;refine tkD 5 49 ?_;refine rdA 6 50 (fun K hK=>?_);go_simp;(with_reducible refine cmo (NM.out _) ?_);rintro e w5 ⟨rfl,hb5⟩;have HB5:=mh (qZ mle HBP.drew hb5);have HC5:=mh (qZ mle HWP.drew hb5);have K5:=mh ((kd hb5 <| kd hb5 <| kd hb5 <| kd hb5 <| kc hb5 <| kc hb5 <| kc hb5 <| k1 hb5) KA.out);have V1:=mh (nll U1.out hb5.size);have V2:=mh (nll U2.out hb5.size);have V3:=mh (nll U3.out hb5.size);have V4:=mh (nll U4.out hb5.size);clear hb5
     go_wp2_with fail
     refine hK.out _ _ ?hSd0_6 (fun hHeld2=>?_)
     case hSd0_6=>exact K5.out
     clear hK K;refine tkD 7 51 ?_;refine tkD 8 52 ?_;refine tkB 9 53 ?_;refine tkB 10 54 ?_;refine tkB 11 55 ?_;refine tkB 12 56 ?_;refine tkB 13 57 ?_;refine tkE 14 58 ?_;refine tkD 15 59 ?_;refine tkD 16 60 ?_;refine tkD 17 61 ?_;refine tkD 18 62 ?_;refine tkD 19 63 ?_;refine tkD 20 64 ?_;refine tkD 21 65 ?_;refine tkD 22 66 ?_;refine rdA 23 67 (fun K hK=>?_);go_simp;(with_reducible refine cmo (NM.out _) ?_);rintro e w6 ⟨rfl,hb6⟩;have HB6:=mh (qZ mle HB5.out hb6);have HC6:=mh (qZ mle HC5.out hb6);have K6:=mh ((kd hb6 <| kd hb6 <| kd hb6 <| kd hb6 <| kc hb6 <| kc hb6 <| kc hb6 <| k1 hb6) K5.out);have X1:=mh (nll V1.out hb6.size);have X2:=mh (nll V2.out hb6.size);have X3:=mh (nll V3.out hb6.size);have X4:=mh (nll V4.out hb6.size);clear hb6
     go_wp2_with fail
     refine hK.out _ _ ?hSd0_23 (fun hHeld2=>?_)
     case hSd0_23=>exact K6.out
     clear hK K;refine tkD 24 68 ?_;refine tkD 25 69 ?_;refine tkD 26 70 ?_;refine tkD 28 72 ?_;refine tkD 29 73 ?_;refine rdA 27 71 (fun K hK=>?_);go_simp;(with_reducible refine cmo (FC.out _ HB6.out) ?_);rintro e w7 ⟨rfl,hb7⟩;have HB7:=mh (qZ mle HB6.out hb7);have HC7:=mh (qZ mle HC6.out hb7);have K7:=mh ((kd hb7 <| kd hb7 <| kd hb7 <| kd hb7 <| kc hb7 <| kc hb7 <| kc hb7 <| k1 hb7) K6.out);have Y1:=mh (nll X1.out hb7.size);have Y2:=mh (nll X2.out hb7.size);have Y3:=mh (nll X3.out hb7.size);have Y4:=mh (nll X4.out hb7.size);clear hb7
     go_wp2_with fail
     refine hK.out _ _ ?hSd0_27 (fun hHeld2=>?_)
     case hSd0_27=>exact K7.out
     clear hK K;refine rdA 30 74 (fun K hK=>?_);go_simp;(with_reducible refine cmo (CK.out _) ?_);rintro e w8 ⟨rfl,hb8⟩;have HB8:=mh (qZ mle HB7.out hb8);have HC8:=mh (qZ mle HC7.out hb8);have K8:=mh ((kd hb8 <| kd hb8 <| kd hb8 <| kd hb8 <| kc hb8 <| kc hb8 <| kc hb8 <| k1 hb8) K7.out);have Z1:=mh (nll Y1.out hb8.size);have Z2:=mh (nll Y2.out hb8.size);have Z3:=mh (nll Y3.out hb8.size);have Z4:=mh (nll Y4.out hb8.size);clear hb8
     go_wp2_with fail
     refine hK.out _ _ ?hSd0_30 (fun hHeld2=>?_)
     case hSd0_30=>exact K8.out
     clear hK K;refine tkD 31 75 ?_;refine tkD 32 76 ?_;refine tkA 33 77 ?_;refine wpAnyH_done (by kernel_rfl) ?_ _
     go_wp2
     go_ret
     exact⟨by rw[EV.out,NOALL.out BAD.out];rfl,HB8.out⟩
  ·obtain rfl:k=sch.length:=by omega
   have E:=mh (show V=true from by rw[EV.out,List.all_eq_true];exact fun j hj=>HAL.out j (List.mem_range.1 hj));obtain⟨p0,p1,p2,p3,p4,p5,p6,q0,q9⟩:=PW.out;clear hall hb
   go_wp2
   go_ret
   exact⟨by rw[E.out];rfl,HBP.out⟩
end Go.Proofs.YtefcalgjnkigjaaGreat
