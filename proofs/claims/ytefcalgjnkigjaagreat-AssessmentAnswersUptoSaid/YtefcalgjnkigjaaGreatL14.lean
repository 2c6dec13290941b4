/- Packed. -/
import Derived.Test.YtefcalgjnkigjaaGreatL11
import Derived.Test.YtefcalgjnkigjaaGreatL12
set_option maxRecDepth 100000
set_option maxHeartbeats 8000000
open Go.Value renaming int → I
open Go.IntKind renaming i64 → O
namespace Go.Proofs.YtefcalgjnkigjaaGreat
open Go.RowKit Sc As
theorem As.lineB_cases (l:YLaw)(x:LineF):((bits BinOp.andNot IntKind.i64 x.sch (allV l.sch) != 0)=true∧zJ l x=false) ∨
  ((bits BinOp.andNot IntKind.i64 x.sch (allV l.sch) != 0)=false∧x.due.length≠l.sch.length∧zJ l x=false) ∨
  ((bits BinOp.andNot IntKind.i64 x.sch (allV l.sch) != 0)=false∧x.due.length=l.sch.length∧x.decl<0∧zJ l x=false) ∨
  ((bits BinOp.andNot IntKind.i64 x.sch (allV l.sch) != 0)=false∧x.due.length=l.sch.length∧¬x.decl<0∧268435456<x.decl∧zJ l x=false) ∨
  ((bits BinOp.andNot IntKind.i64 x.sch (allV l.sch) != 0)=false∧x.due.length=l.sch.length∧¬x.decl<0∧¬268435456<x.decl∧zJ l x=(List.range l.sch.length).all (wR l x)):=by
 unfold zJ;obtain⟨b,eb⟩:∃b,bits BinOp.andNot IntKind.i64 x.sch (allV l.sch)=b:=⟨_,rfl⟩;rw[eb]
 by_cases h0:b=0
 ·subst h0
  by_cases h1:x.due.length=l.sch.length
  ·by_cases h2:x.decl<0
   ·exact .inr (.inr (.inl ⟨rfl,h1,h2,by simp;omega⟩))
   ·by_cases h3:268435456<x.decl
    ·exact .inr (.inr (.inr (.inl ⟨rfl,h1,h2,h3,by simp;omega⟩)))
    ·refine .inr (.inr (.inr (.inr ⟨rfl,h1,h2,h3,?_⟩)))
     rw[dqt h1,dqt (show 0≤x.decl by omega),dqt (show x.decl≤268435456 by omega)]
     simp
  ·exact .inr (.inl ⟨rfl,h1,by simp[h1]⟩)
 ·exact .inl ⟨by simpa using h0,by simp[h0]⟩
theorem jEA {Q Q2:Nat→Prop}(d:Nat)(r:RY)(l:YLaw)(rl:RL)(x:LineF)(w:World)(h:YV Q w d r l)(hn:∀s∈l.sch,0≤s.num∧s.num≤15)(hx:LV Q2 w rl x) :
  Calls Tryz.prog 91 #[.agg (yCells r).toArray,.agg (jS rl).toArray] w (yC (zJ l x) w):=by
 have hs0:=h.sch.len;have hd0:=hx.due.1;have H:=mh h.sch;have HN:=mh hn;have HD:=mh hx.due;have HX:=mh hx;have LC:=lineB_cases l x;obtain⟨V,eV⟩:∃V,zJ l x=V:=⟨_,rfl⟩;have AS:=mh (fun (k:Nat) (hk:k<l.sch.length)=>allV_take hk);have SO:=mh (fun (k:Nat) (hk:k<l.sch.length)=>show wR l x k=if zW x l.sch[k] then decide (chk28 (factOf x k) l.width=0) else decide (x.due.getD k 0=0) from by unfold wR;rw[List.getElem?_eq_getElem hk]);rw[eV]at LC ⊢;clear eV hn;obtain⟨sp,sn,sc,tp,tn', tc,ldue,llast,lmille,gp,gn,gc,cp,ev,un,wd⟩:=r;obtain⟨sch,steps,⟨ldue', llast', lmille'⟩,deg,cp', ev', un', wd'⟩:=l;obtain⟨dl,ls,dp,dn,dc,se,ki,ar,bo⟩:=rl;obtain⟨dl', ls', due,se', ki', ar', bo'⟩:=x;have e1:=h.sn;have e2:=h.tn;have e3:=h.due;have e4:=h.last;have e5:=h.mille;have e6:=h.gn;have e7:=h.cap;have e8:=h.env;have e9:=h.unit;have e10:=h.width;have g1:=hx.decl;have g2:=hx.sch;have g3:=hx.dn;have g4:=hx.season;have g5:=hx.kind;have g6:=hx.area;have g7:=hx.border;clear h hx;simp only at e1 e2 e3 e4 e5 e6 e7 e8 e9 e10 g1 g2 g3 g4 g5 g6 g7 H HN HD LC AS SO HX hs0 hd0;subst e1 e2 e3 e4 e5 e6 e7 e8 e9 e10 g1 g2 g3 g4 g5 g6 g7;have HA:=mh (qK mle (qK mle (brf w.heap.size w) (.cells #[.slice sp sch.length sc,.slice tp steps.length tc,I O ldue,I O llast,I O lmille,.slice gp deg.length gc,I O cp,I O ev,I O un,I O wd] 29)) (.cells #[I O dl,I O ls,.slice dp due.length dc,I O se,I O ki,I O ar,I O bo] 89));obtain⟨W2,eW2⟩:∃W2,(w.alloc (.cells #[.slice sp sch.length sc,.slice tp steps.length tc,I O ldue,I O llast,I O lmille,.slice gp deg.length gc,I O cp,I O ev,I O un,I O wd] 29)).alloc (.cells #[I O dl,I O ls,.slice dp due.length dc,I O se,I O ki,I O ar,I O bo] 89)=W2:=⟨_,rfl⟩;have EW:=mh eW2;clear eW2;simp only[yCells,jS]
 go_enter Tryz.func91,Tryz.ntmps91
 go_wp2
 go_loopw [5,13] (fun a i wr=>∃k:Nat,k≤sch.length∧i=I O k∧a=I O (allV (sch.take k))∧Below W2.heap.size W2 wr) (fun _ i _=>sch.length - (intOf i).toNat)
 case atStart=>exact⟨0,Nat.zero_le _,rfl,rfl,by rw[← EW.out];exact brf _ _⟩
 case round =>
  obtain⟨wo,rfl⟩:∃wo:World,wo=wr:=⟨_,rfl⟩;obtain⟨k,hk,rfl,rfl,hb⟩:=hrel;have HBW:=mh (show Below w.heap.size w wo from qZ mle (by rw[← EW.out];exact HA) hb);have hk0:(0:Int)≤(k:Int):=inn _
  by_cases hlt:k<sch.length
  ·have hk1:(k:Int)<(sch.length:Int):=by omega
   obtain⟨b,off,y,rfl,hbl,hC,hv⟩:=(H.below HBW).at hlt;have hnum:=hv.num;have hb15:=HN.out _ (List.getElem_mem hlt);have ST:=mh (AS k hlt);rw[← hnum]at hb15 ST;obtain⟨c0,c1,c2,c3,c4,c5,c6,c7,c8,c9⟩:=hC;clear hv hnum;obtain⟨num,nm,⟨o,tn,tm,tq,tl,tz⟩,bp,bn,bc,least,ex,needs⟩:=y;simp only at c0 c1 c2 c3 c4 c5 c6 c7 c8 c9 hb15 ST;obtain⟨n0,n1⟩:=hb15;obtain⟨A,eA⟩:∃A,allV (sch.take k)=A:=⟨_,rfl⟩;rw[eA]at ST ⊢;have HBX:=mh (qK mle hb (.cells #[I O num,.string nm,I O o,I O tn,I O tm,.slice tq tl tz,.slice bp bn bc,I O least,I O ex,.bool needs] 81));clear eA hb
   go_wp2
   go_roundw
   case rel=>exact⟨k+1,by omega,by go_num,by rw[ST.out],HBX.out⟩
   case measure=>simp[intOf];omega
  ·obtain rfl:k=sch.length:=by omega
   have SZ:=mh (show W2.heap.size=w.heap.size+2 by rw[← EW.out];simp)
   have P:=mh (show W2.cell? ⟨w.heap.size+1,0,none⟩=some (I O dl)∧W2.cell? ⟨w.heap.size+1,1,none⟩=some (I O ls)∧W2.cell? ⟨w.heap.size+1,2,none⟩=some (.slice dp due.length dc)∧W2.cell? ⟨w.heap.size+1,3,none⟩=some (I O se)∧W2.cell? ⟨w.heap.size+1,4,none⟩=some (I O ki)∧W2.cell? ⟨w.heap.size+1,5,none⟩=some (I O ar)∧W2.cell? ⟨w.heap.size+1,6,none⟩=some (I O bo)∧W2.cell? ⟨w.heap.size,0,none⟩=some (.slice sp sch.length sc)∧W2.cell? ⟨w.heap.size,9,none⟩=some (I O wd) from by
    rw[← EW.out];have c:=cwn (w.alloc (.cells #[.slice sp sch.length sc,.slice tp steps.length tc,I O ldue,I O llast,I O lmille,.slice gp deg.length gc,I O cp,I O ev,I O un,I O wd] 29)) #[I O dl,I O ls,.slice dp due.length dc,I O se,I O ki,I O ar,I O bo] 89;simp only[World.size_alloc]at c
    exact⟨c 0,c 1,c 2,c 3,c 4,c 5,c 6,
     ((qK mle (brf (w.alloc (.cells #[.slice sp sch.length sc,.slice tp steps.length tc,I O ldue,I O llast,I O lmille,.slice gp deg.length gc,I O cp,I O ev,I O un,I O wd] 29)).heap.size (w.alloc (.cells #[.slice sp sch.length sc,.slice tp steps.length tc,I O ldue,I O llast,I O lmille,.slice gp deg.length gc,I O cp,I O ev,I O un,I O wd] 29))) (.cells #[I O dl,I O ls,.slice dp due.length dc,I O se,I O ki,I O ar,I O bo] 89)).cell (p:=⟨w.heap.size,0,none⟩) (by simp)).trans (cwn _ _ _ 0),((qK mle (brf (w.alloc (.cells #[.slice sp sch.length sc,.slice tp steps.length tc,I O ldue,I O llast,I O lmille,.slice gp deg.length gc,I O cp,I O ev,I O un,I O wd] 29)).heap.size (w.alloc (.cells #[.slice sp sch.length sc,.slice tp steps.length tc,I O ldue,I O llast,I O lmille,.slice gp deg.length gc,I O cp,I O ev,I O un,I O wd] 29))) (.cells #[I O dl,I O ls,.slice dp due.length dc,I O se,I O ki,I O ar,I O bo] 89)).cell (p:=⟨w.heap.size,9,none⟩) (by simp)).trans (cwn _ _ _ 9)⟩)
   have s1:w.heap.size<W2.heap.size:=by rw[SZ.out];omega
   have s2:w.heap.size+1<W2.heap.size:=by rw[SZ.out];omega
   have PW:=mh ((kd hb <| kd hb <| k1 hb) P);have S1:=mh (show w.heap.size<wo.heap.size from nll s1 hb.size);have S2:=mh (show w.heap.size+1<wo.heap.size from nll s2 hb.size);obtain⟨p0,p1,p2,p3,p4,p5,p6,q0,q9⟩:=PW.out;have hd1:=HD.len;obtain⟨B,eB⟩:∃B,bits BinOp.andNot IntKind.i64 ls (allV sch)=B:=⟨_,rfl⟩;rw[show allV (sch.take sch.length)=allV sch from by rw[List.take_length]];obtain⟨A,eA⟩:∃A,allV sch=A:=⟨_,rfl⟩;rw[eA]at eB ⊢;rw[eA,eB]at LC;clear s1 s2 hb eA hk hlt
   rcases LC with⟨l1,l2⟩|⟨l1,l2,l3⟩|⟨l1,l2,l3,l4⟩|⟨l1,l2,l3,l4,l5⟩|⟨l1,l2,l3,l4,l5⟩
   ·subst l2
    rw[← eB]at l1;clear eB
    go_wp2
    go_ret
    exact⟨rfl,HBW.out⟩
   ·subst l3
    rw[← eB]at l1;clear eB;have l2' : ((due.length:Int) != (sch.length:Int))=true:=by rw[bne_iff_ne];omega
    clear l2
    go_wp2
    go_ret
    exact⟨rfl,HBW.out⟩
   ·subst l4
    rw[← eB]at l1;clear eB;have l2' : ((due.length:Int) != (sch.length:Int))=false:=by rw[l2];exact bne_self_eq_false _
    have L2:=mh l2;clear l2
    go_wp2
    go_ret
    exact⟨rfl,HBW.out⟩
   ·subst l5
    rw[← eB]at l1;clear eB;have l2' : ((due.length:Int) != (sch.length:Int))=false:=by rw[l2];exact bne_self_eq_false _
    have L2:=mh l2;clear l2
    go_wp2
    go_ret
    exact⟨rfl,HBW.out⟩
   ·rw[← eB]at l1
    have EV:=mh l5;have l2' : ((due.length:Int) != (sch.length:Int))=false:=by rw[l2];exact bne_self_eq_false _
    have L2:=mh l2;clear l2 l5 eB;obtain⟨SK,eSK⟩:∃SK,wR ⟨sch,steps,⟨ldue,llast,lmille⟩,deg,cp,ev,un,wd⟩ ⟨dl,ls,due,se,ki,ar,bo⟩=SK:=⟨_,rfl⟩;rw[eSK]at EV SO;clear eSK
    go_wp2
    go_loopw [50] (fun i wr=>∃k:Nat,k≤sch.length∧i=I O k∧(∀j,j<k→SK j=true)∧Below wo.heap.size wo wr) (fun i _=>sch.length - (intOf i).toNat)
    case atStart=>exact⟨0,Nat.zero_le _,rfl,fun j hj=>absurd hj (Nat.not_lt_zero j),brf _ _⟩
    case round =>
     obtain⟨wp,rfl⟩:∃wp:World,wp=wr:=⟨_,rfl⟩;obtain⟨k,hk,rfl,hall,hb⟩:=hrel;have HAL:=mh hall;have HBP:=mh (qZ mle HBW hb);have hk0:(0:Int)≤(k:Int):=inn _
     by_cases hlt:k<sch.length
     ·have hk1:(k:Int)<(sch.length:Int):=by omega
      have hk2:(k:Int)<(due.length:Int):=by have:=L2.out;omega
      have hkd:k<due.length:=by have:=L2.out;omega
      obtain⟨b,off,y,rfl,hbl,hC,hv⟩:=(H.below HBP).at hlt;have hnum:=hv.num;have hb15:=HN.out _ (List.getElem_mem hlt);have SKE:=SO.out k hlt;unfold zW at SKE;rw[← hnum]at hb15 SKE;obtain⟨c0,c1,c2,c3,c4,c5,c6,c7,c8,c9⟩:=hC;clear hv hnum;obtain⟨num,nm,⟨o,tn,tm,tq,tl,tz⟩,bp,bn,bc,least,ex,needs⟩:=y;simp only at c0 c1 c2 c3 c4 c5 c6 c7 c8 c9 hb15 SKE;have NM:=mh (fun (W:World)=>bS ⟨dl,ls,dp,due.length,dc,se,ki,ar,bo⟩ ⟨num,nm,⟨o,tn,tm,tq,tl,tz⟩,bp,bn,bc,least,ex,needs⟩ W hb15.1 hb15.2);have FC:=mh (fun (W:World) (hW:Below w.heap.size w W)=>mV ⟨dl,ls,dp,due.length,dc,se,ki,ar,bo⟩ ⟨dl,ls,due,se,ki,ar,bo⟩ k W (HX.below hW) hkd);obtain⟨bd,offd,ed,hbd,hcd⟩:=HD.at hkd
      cases ed
      obtain⟨u,eu⟩:∃u,due.getD k 0=u:=⟨_,rfl⟩;rw[eu]at hcd;have hcd:=(HBP.cell (p:=⟨bd,offd+k,none⟩) hbd).trans hcd;simp only[eu]at SKE;obtain⟨⟨fd,fu,fs,fk,fa,fb⟩,eF⟩:∃F,factOf ⟨dl,ls,due,se,ki,ar,bo⟩ k=F:=⟨_,rfl⟩;rw[eF]at FC SKE;have CK:=mh (fun (W:World)=>show Calls Tryz.prog 129 #[.agg (dB ⟨fd,fu,fs,fk,fa,fb⟩).toArray,I O wd] W (fun e w' => e = .returned (I O (chk28 ⟨fd,fu,fs,fk,fa,fb⟩ wd))∧Below W.heap.size W w') from uD fd fu fs fk fa fb wd W);obtain⟨cv,ecv⟩:∃v,chk28 ⟨fd,fu,fs,fk,fa,fb⟩ wd=v:=⟨_,rfl⟩;rw[ecv]at CK SKE;obtain⟨bt,ebt⟩:∃b,zH ls num=b:=⟨_,rfl⟩;simp only at NM;rw[ebt]at NM SKE;simp only[jS,zN]at NM FC;have SE:=mh SKE;have KP:=mh ((kd hb <| kd hb <| k1 hb) PW);have hwa:=(brf wp.heap.size wp).alloc mle (.cells #[I O num,.string nm,I O o,I O tn,I O tm,.slice tq tl tz,.slice bp bn bc,I O least,I O ex,.bool needs] 81);have ca:=cwn wp #[I O num,.string nm,I O o,I O tn,I O tm,.slice tq tl tz,.slice bp bn bc,I O least,I O ex,.bool needs] 81;have T1:=mh (show w.heap.size<wp.heap.size from nll S1 hb.size);have T2:=mh (show w.heap.size+1<wp.heap.size from nll S2 hb.size);have T4:=mh (show bd<wp.heap.size from nll hbd HBP.size);have KA:=mh (show(wp.alloc (.cells #[I O num,.string nm,I O o,I O tn,I O tm,.slice tq tl tz,.slice bp bn bc,I O least,I O ex,.bool needs] 81)).cell? ⟨w.heap.size+1,0,none⟩=some (I O dl)∧(wp.alloc (.cells #[I O num,.string nm,I O o,I O tn,I O tm,.slice tq tl tz,.slice bp bn bc,I O least,I O ex,.bool needs] 81)).cell? ⟨w.heap.size+1,1,none⟩=some (I O ls)∧(wp.alloc (.cells #[I O num,.string nm,I O o,I O tn,I O tm,.slice tq tl tz,.slice bp bn bc,I O least,I O ex,.bool needs] 81)).cell? ⟨w.heap.size+1,2,none⟩=some (.slice (some ⟨bd,offd,none⟩) due.length dc)∧(wp.alloc (.cells #[I O num,.string nm,I O o,I O tn,I O tm,.slice tq tl tz,.slice bp bn bc,I O least,I O ex,.bool needs] 81)).cell? ⟨w.heap.size+1,3,none⟩=some (I O se)∧(wp.alloc (.cells #[I O num,.string nm,I O o,I O tn,I O tm,.slice tq tl tz,.slice bp bn bc,I O least,I O ex,.bool needs] 81)).cell? ⟨w.heap.size+1,4,none⟩=some (I O ki)∧(wp.alloc (.cells #[I O num,.string nm,I O o,I O tn,I O tm,.slice tq tl tz,.slice bp bn bc,I O least,I O ex,.bool needs] 81)).cell? ⟨w.heap.size+1,5,none⟩=some (I O ar)∧(wp.alloc (.cells #[I O num,.string nm,I O o,I O tn,I O tm,.slice tq tl tz,.slice bp bn bc,I O least,I O ex,.bool needs] 81)).cell? ⟨w.heap.size+1,6,none⟩=some (I O bo)∧(wp.alloc (.cells #[I O num,.string nm,I O o,I O tn,I O tm,.slice tq tl tz,.slice bp bn bc,I O least,I O ex,.bool needs] 81)).cell? ⟨w.heap.size,0,none⟩=some (.slice (some ⟨b,off,none⟩) sch.length sc)∧(wp.alloc (.cells #[I O num,.string nm,I O o,I O tn,I O tm,.slice tq tl tz,.slice bp bn bc,I O least,I O ex,.bool needs] 81)).cell? ⟨w.heap.size,9,none⟩=some (I O wd)∧(wp.alloc (.cells #[I O num,.string nm,I O o,I O tn,I O tm,.slice tq tl tz,.slice bp bn bc,I O least,I O ex,.bool needs] 81)).cell? ⟨wp.heap.size,0,none⟩=some (I O num)∧(wp.alloc (.cells #[I O num,.string nm,I O o,I O tn,I O tm,.slice tq tl tz,.slice bp bn bc,I O least,I O ex,.bool needs] 81)).cell? ⟨wp.heap.size,1,none⟩=some (.string nm)∧(wp.alloc (.cells #[I O num,.string nm,I O o,I O tn,I O tm,.slice tq tl tz,.slice bp bn bc,I O least,I O ex,.bool needs] 81)).cell? ⟨wp.heap.size,2,none⟩=some (I O o)∧(wp.alloc (.cells #[I O num,.string nm,I O o,I O tn,I O tm,.slice tq tl tz,.slice bp bn bc,I O least,I O ex,.bool needs] 81)).cell? ⟨wp.heap.size,3,none⟩=some (I O tn)∧(wp.alloc (.cells #[I O num,.string nm,I O o,I O tn,I O tm,.slice tq tl tz,.slice bp bn bc,I O least,I O ex,.bool needs] 81)).cell? ⟨wp.heap.size,4,none⟩=some (I O tm)∧(wp.alloc (.cells #[I O num,.string nm,I O o,I O tn,I O tm,.slice tq tl tz,.slice bp bn bc,I O least,I O ex,.bool needs] 81)).cell? ⟨wp.heap.size,5,none⟩=some (.slice tq tl tz)∧(wp.alloc (.cells #[I O num,.string nm,I O o,I O tn,I O tm,.slice tq tl tz,.slice bp bn bc,I O least,I O ex,.bool needs] 81)).cell? ⟨wp.heap.size,6,none⟩=some (.slice bp bn bc)∧(wp.alloc (.cells #[I O num,.string nm,I O o,I O tn,I O tm,.slice tq tl tz,.slice bp bn bc,I O least,I O ex,.bool needs] 81)).cell? ⟨wp.heap.size,7,none⟩=some (I O least)∧(wp.alloc (.cells #[I O num,.string nm,I O o,I O tn,I O tm,.slice tq tl tz,.slice bp bn bc,I O least,I O ex,.bool needs] 81)).cell? ⟨wp.heap.size,8,none⟩=some (I O ex)∧(wp.alloc (.cells #[I O num,.string nm,I O o,I O tn,I O tm,.slice tq tl tz,.slice bp bn bc,I O least,I O ex,.bool needs] 81)).cell? ⟨wp.heap.size,9,none⟩=some (.bool needs)∧(wp.alloc (.cells #[I O num,.string nm,I O o,I O tn,I O tm,.slice tq tl tz,.slice bp bn bc,I O least,I O ex,.bool needs] 81)).cell? ⟨bd,offd+k,none⟩=some (I O u) from⟨(hwa.cell (p:=⟨w.heap.size+1,0,none⟩) T2).trans KP.1,(hwa.cell (p:=⟨w.heap.size+1,1,none⟩) T2).trans KP.2.1,(hwa.cell (p:=⟨w.heap.size+1,2,none⟩) T2).trans KP.2.2.1,(hwa.cell (p:=⟨w.heap.size+1,3,none⟩) T2).trans KP.2.2.2.1,(hwa.cell (p:=⟨w.heap.size+1,4,none⟩) T2).trans KP.2.2.2.2.1,(hwa.cell (p:=⟨w.heap.size+1,5,none⟩) T2).trans KP.2.2.2.2.2.1,(hwa.cell (p:=⟨w.heap.size+1,6,none⟩) T2).trans KP.2.2.2.2.2.2.1,(hwa.cell (p:=⟨w.heap.size,0,none⟩) T1).trans KP.2.2.2.2.2.2.2.1,(hwa.cell (p:=⟨w.heap.size,9,none⟩) T1).trans KP.2.2.2.2.2.2.2.2,ca 0,ca 1,ca 2,ca 3,ca 4,ca 5,ca 6,ca 7,ca 8,ca 9,(hwa.cell (p:=⟨bd,offd+k,none⟩) T4).trans hcd⟩)
      have KD:=mh (show(wp.alloc (.cells #[I O num,.string nm,I O o,I O tn,I O tm,.slice tq tl tz,.slice bp bn bc,I O least,I O ex,.bool needs] 81)).drew.cell? ⟨w.heap.size+1,0,none⟩=some (I O dl)∧(wp.alloc (.cells #[I O num,.string nm,I O o,I O tn,I O tm,.slice tq tl tz,.slice bp bn bc,I O least,I O ex,.bool needs] 81)).drew.cell? ⟨w.heap.size+1,1,none⟩=some (I O ls)∧(wp.alloc (.cells #[I O num,.string nm,I O o,I O tn,I O tm,.slice tq tl tz,.slice bp bn bc,I O least,I O ex,.bool needs] 81)).drew.cell? ⟨w.heap.size+1,2,none⟩=some (.slice (some ⟨bd,offd,none⟩) due.length dc)∧(wp.alloc (.cells #[I O num,.string nm,I O o,I O tn,I O tm,.slice tq tl tz,.slice bp bn bc,I O least,I O ex,.bool needs] 81)).drew.cell? ⟨w.heap.size+1,3,none⟩=some (I O se)∧(wp.alloc (.cells #[I O num,.string nm,I O o,I O tn,I O tm,.slice tq tl tz,.slice bp bn bc,I O least,I O ex,.bool needs] 81)).drew.cell? ⟨w.heap.size+1,4,none⟩=some (I O ki)∧(wp.alloc (.cells #[I O num,.string nm,I O o,I O tn,I O tm,.slice tq tl tz,.slice bp bn bc,I O least,I O ex,.bool needs] 81)).drew.cell? ⟨w.heap.size+1,5,none⟩=some (I O ar)∧(wp.alloc (.cells #[I O num,.string nm,I O o,I O tn,I O tm,.slice tq tl tz,.slice bp bn bc,I O least,I O ex,.bool needs] 81)).drew.cell? ⟨w.heap.size+1,6,none⟩=some (I O bo)∧(wp.alloc (.cells #[I O num,.string nm,I O o,I O tn,I O tm,.slice tq tl tz,.slice bp bn bc,I O least,I O ex,.bool needs] 81)).drew.cell? ⟨w.heap.size,0,none⟩=some (.slice (some ⟨b,off,none⟩) sch.length sc)∧(wp.alloc (.cells #[I O num,.string nm,I O o,I O tn,I O tm,.slice tq tl tz,.slice bp bn bc,I O least,I O ex,.bool needs] 81)).drew.cell? ⟨w.heap.size,9,none⟩=some (I O wd)∧(wp.alloc (.cells #[I O num,.string nm,I O o,I O tn,I O tm,.slice tq tl tz,.slice bp bn bc,I O least,I O ex,.bool needs] 81)).drew.cell? ⟨wp.heap.size,0,none⟩=some (I O num)∧(wp.alloc (.cells #[I O num,.string nm,I O o,I O tn,I O tm,.slice tq tl tz,.slice bp bn bc,I O least,I O ex,.bool needs] 81)).drew.cell? ⟨wp.heap.size,1,none⟩=some (.string nm)∧(wp.alloc (.cells #[I O num,.string nm,I O o,I O tn,I O tm,.slice tq tl tz,.slice bp bn bc,I O least,I O ex,.bool needs] 81)).drew.cell? ⟨wp.heap.size,2,none⟩=some (I O o)∧(wp.alloc (.cells #[I O num,.string nm,I O o,I O tn,I O tm,.slice tq tl tz,.slice bp bn bc,I O least,I O ex,.bool needs] 81)).drew.cell? ⟨wp.heap.size,3,none⟩=some (I O tn)∧(wp.alloc (.cells #[I O num,.string nm,I O o,I O tn,I O tm,.slice tq tl tz,.slice bp bn bc,I O least,I O ex,.bool needs] 81)).drew.cell? ⟨wp.heap.size,4,none⟩=some (I O tm)∧(wp.alloc (.cells #[I O num,.string nm,I O o,I O tn,I O tm,.slice tq tl tz,.slice bp bn bc,I O least,I O ex,.bool needs] 81)).drew.cell? ⟨wp.heap.size,5,none⟩=some (.slice tq tl tz)∧(wp.alloc (.cells #[I O num,.string nm,I O o,I O tn,I O tm,.slice tq tl tz,.slice bp bn bc,I O least,I O ex,.bool needs] 81)).drew.cell? ⟨wp.heap.size,6,none⟩=some (.slice bp bn bc)∧(wp.alloc (.cells #[I O num,.string nm,I O o,I O tn,I O tm,.slice tq tl tz,.slice bp bn bc,I O least,I O ex,.bool needs] 81)).drew.cell? ⟨wp.heap.size,7,none⟩=some (I O least)∧(wp.alloc (.cells #[I O num,.string nm,I O o,I O tn,I O tm,.slice tq tl tz,.slice bp bn bc,I O least,I O ex,.bool needs] 81)).drew.cell? ⟨wp.heap.size,8,none⟩=some (I O ex)∧(wp.alloc (.cells #[I O num,.string nm,I O o,I O tn,I O tm,.slice tq tl tz,.slice bp bn bc,I O least,I O ex,.bool needs] 81)).drew.cell? ⟨wp.heap.size,9,none⟩=some (.bool needs)∧(wp.alloc (.cells #[I O num,.string nm,I O o,I O tn,I O tm,.slice tq tl tz,.slice bp bn bc,I O least,I O ex,.bool needs] 81)).drew.cell? ⟨bd,offd+k,none⟩=some (I O u) from KA.out)
      have HBX:=mh (qK mle HBP (.cells #[I O num,.string nm,I O o,I O tn,I O tm,.slice tq tl tz,.slice bp bn bc,I O least,I O ex,.bool needs] 81));have U1:=mh (show w.heap.size<(wp.alloc (.cells #[I O num,.string nm,I O o,I O tn,I O tm,.slice tq tl tz,.slice bp bn bc,I O least,I O ex,.bool needs] 81)).heap.size by simp;have:=T1.out;omega);have U2:=mh (show w.heap.size+1<(wp.alloc (.cells #[I O num,.string nm,I O o,I O tn,I O tm,.slice tq tl tz,.slice bp bn bc,I O least,I O ex,.bool needs] 81)).heap.size by simp;have:=T2.out;omega);have U3:=mh (show wp.heap.size<(wp.alloc (.cells #[I O num,.string nm,I O o,I O tn,I O tm,.slice tq tl tz,.slice bp bn bc,I O least,I O ex,.bool needs] 81)).heap.size by simp);have U4:=mh (show bd<(wp.alloc (.cells #[I O num,.string nm,I O o,I O tn,I O tm,.slice tq tl tz,.slice bp bn bc,I O least,I O ex,.bool needs] 81)).heap.size by simp;have:=T4.out;omega);have NOALL:=mh (fun (h:SK k=false)=>show(List.range sch.length).all SK=false from by rw[← Bool.not_eq_true,List.all_eq_true];intro h2;rw[h2 k (List.mem_range.2 hlt)]at h;cases h);have HWX:=mh (qK mle hb (.cells #[I O num,.string nm,I O o,I O tn,I O tm,.slice tq tl tz,.slice bp bn bc,I O least,I O ex,.bool needs] 81));clear SKE ecv ebt eu eF hwa ca hb hall hb15 hbl hbd hk hlt
      cases bt
      ·by_cases hu:u=0
       ·have hu' : (u != 0)=false:=by simp[hu]
        have OK:=mh (show SK k=true from by rw[SE.out,if_neg (by decide)];exact dqt hu);clear hu
        go_wp2_with fail
        refine wp_region_held_drew (S:=fun w' => w'.cell? ⟨w.heap.size+1,0,none⟩=some (I O dl)∧w'.cell? ⟨w.heap.size+1,1,none⟩=some (I O ls)∧w'.cell? ⟨w.heap.size+1,2,none⟩=some (.slice (some ⟨bd,offd,none⟩) due.length dc)∧w'.cell? ⟨w.heap.size+1,3,none⟩=some (I O se)∧w'.cell? ⟨w.heap.size+1,4,none⟩=some (I O ki)∧w'.cell? ⟨w.heap.size+1,5,none⟩=some (I O ar)∧w'.cell? ⟨w.heap.size+1,6,none⟩=some (I O bo)∧w'.cell? ⟨w.heap.size,0,none⟩=some (.slice (some ⟨b,off,none⟩) sch.length sc)∧w'.cell? ⟨w.heap.size,9,none⟩=some (I O wd)∧w'.cell? ⟨wp.heap.size,0,none⟩=some (I O num)∧w'.cell? ⟨wp.heap.size,1,none⟩=some (.string nm)∧w'.cell? ⟨wp.heap.size,2,none⟩=some (I O o)∧w'.cell? ⟨wp.heap.size,3,none⟩=some (I O tn)∧w'.cell? ⟨wp.heap.size,4,none⟩=some (I O tm)∧w'.cell? ⟨wp.heap.size,5,none⟩=some (.slice tq tl tz)∧w'.cell? ⟨wp.heap.size,6,none⟩=some (.slice bp bn bc)∧w'.cell? ⟨wp.heap.size,7,none⟩=some (I O least)∧w'.cell? ⟨wp.heap.size,8,none⟩=some (I O ex)∧w'.cell? ⟨wp.heap.size,9,none⟩=some (.bool needs)∧w'.cell? ⟨bd,offd+k,none⟩=some (I O u)) (by kernel_rfl) KD (fun hHeld=>?_)
        refine tkA 0 55 ?_
        simp only[Act.put,mnA,mnB,mnC];refine tkD 1 56 ?_;refine rdA 2 57 (fun K hK=>?_);go_simp;(with_reducible refine cmo (NM.out _) ?_);rintro e w5 ⟨rfl,hb5⟩;have HB5:=mh (qZ mle HBX.drew hb5);have HC5:=mh (qZ mle HWX.drew hb5);have K5:=mh ((kd hb5 <| kd hb5 <| kd hb5 <| kd hb5 <| kc hb5 <| kc hb5 <| kc hb5 <| k1 hb5) KA);have V1:=mh (nll U1 hb5.size);have V2:=mh (nll U2 hb5.size);have V3:=mh (nll U3 hb5.size);have V4:=mh (nll U4 hb5.size);clear hb5
        go_wp2_with fail
        refine hK.out _ _ ?hSa0_2 (fun hHeld2=>?_)
        case hSa0_2=>exact K5.out
        clear hK K;refine tkD 3 58 ?_;refine tkD 4 59 ?_;refine tkD 5 60 ?_;refine tkD 6 61 ?_;refine tkD 7 62 ?_;refine tkD 8 63 ?_;refine tkD 9 64 ?_;refine tkD 10 65 ?_;refine tkD 11 66 ?_;refine tkD 12 67 ?_;refine tkD 13 68 ?_;refine tkD 14 69 ?_;refine rdA 15 70 (fun K hK=>?_);go_simp;(with_reducible refine cmo (NM.out _) ?_);rintro e w6 ⟨rfl,hb6⟩;have HB6:=mh (qZ mle HB5 hb6);have HC6:=mh (qZ mle HC5 hb6);have K6:=mh ((kd hb6 <| kd hb6 <| kd hb6 <| kd hb6 <| kc hb6 <| kc hb6 <| kc hb6 <| k1 hb6) K5);have X1:=mh (nll V1 hb6.size);have X2:=mh (nll V2 hb6.size);have X3:=mh (nll V3 hb6.size);have X4:=mh (nll V4 hb6.size);clear hb6
        go_wp2_with fail
        refine hK.out _ _ ?hSa0_15 (fun hHeld2=>?_)
        case hSa0_15=>exact K6.out
        clear hK K;refine tkD 16 71 ?_;refine tkB 17 72 ?_;refine tkB 18 73 ?_;refine tkB 19 74 ?_;refine tkB 20 75 ?_;refine tkB 21 76 ?_;refine tkB 22 77 ?_;refine tkE 23 78 ?_;refine tkD 24 79 ?_;refine tkA 25 80 ?_;refine wpAnyH_done (by kernel_rfl) ?_ _
        go_wp2
        go_roundw
        case rel=>exact⟨k+1,by omega,by go_num,fun j hj=>by
         by_cases e:j=k
         ·subst e;exact OK.out
         ·exact HAL j (by omega),HC6.out⟩
        case measure=>simp[intOf];omega
       ·have hu' : (u != 0)=true:=by simpa using hu
        have BAD:=mh (show SK k=false from by rw[SE.out,if_neg (by decide)];exact dqf hu);clear hu
        go_wp2_with fail
        refine wp_region_held_drew (S:=fun w' => w'.cell? ⟨w.heap.size+1,0,none⟩=some (I O dl)∧w'.cell? ⟨w.heap.size+1,1,none⟩=some (I O ls)∧w'.cell? ⟨w.heap.size+1,2,none⟩=some (.slice (some ⟨bd,offd,none⟩) due.length dc)∧w'.cell? ⟨w.heap.size+1,3,none⟩=some (I O se)∧w'.cell? ⟨w.heap.size+1,4,none⟩=some (I O ki)∧w'.cell? ⟨w.heap.size+1,5,none⟩=some (I O ar)∧w'.cell? ⟨w.heap.size+1,6,none⟩=some (I O bo)∧w'.cell? ⟨w.heap.size,0,none⟩=some (.slice (some ⟨b,off,none⟩) sch.length sc)∧w'.cell? ⟨w.heap.size,9,none⟩=some (I O wd)∧w'.cell? ⟨wp.heap.size,0,none⟩=some (I O num)∧w'.cell? ⟨wp.heap.size,1,none⟩=some (.string nm)∧w'.cell? ⟨wp.heap.size,2,none⟩=some (I O o)∧w'.cell? ⟨wp.heap.size,3,none⟩=some (I O tn)∧w'.cell? ⟨wp.heap.size,4,none⟩=some (I O tm)∧w'.cell? ⟨wp.heap.size,5,none⟩=some (.slice tq tl tz)∧w'.cell? ⟨wp.heap.size,6,none⟩=some (.slice bp bn bc)∧w'.cell? ⟨wp.heap.size,7,none⟩=some (I O least)∧w'.cell? ⟨wp.heap.size,8,none⟩=some (I O ex)∧w'.cell? ⟨wp.heap.size,9,none⟩=some (.bool needs)∧w'.cell? ⟨bd,offd+k,none⟩=some (I O u)) (by kernel_rfl) KD (fun hHeld=>?_)
        refine tkA 0 55 ?_
        simp only[Act.put,mnA,mnB,mnC];refine tkD 1 56 ?_;refine rdA 2 57 (fun K hK=>?_);go_simp;(with_reducible refine cmo (NM.out _) ?_);rintro e w5 ⟨rfl,hb5⟩;have HB5:=mh (qZ mle HBX.drew hb5);have HC5:=mh (qZ mle HWX.drew hb5);have K5:=mh ((kd hb5 <| kd hb5 <| kd hb5 <| kd hb5 <| kc hb5 <| kc hb5 <| kc hb5 <| k1 hb5) KA);have V1:=mh (nll U1 hb5.size);have V2:=mh (nll U2 hb5.size);have V3:=mh (nll U3 hb5.size);have V4:=mh (nll U4 hb5.size);clear hb5
        go_wp2_with fail
        refine hK.out _ _ ?hSb0_2 (fun hHeld2=>?_)
        case hSb0_2=>exact K5.out
        clear hK K;refine tkD 3 58 ?_;refine tkD 4 59 ?_;refine tkD 5 60 ?_;refine tkD 6 61 ?_;refine tkD 7 62 ?_;refine tkD 8 63 ?_;refine tkD 9 64 ?_;refine tkD 10 65 ?_;refine tkD 11 66 ?_;refine tkD 12 67 ?_;refine tkB 13 68 ?_;refine tkB 14 69 ?_;refine tkB 15 70 ?_;refine tkB 16 71 ?_;refine tkB 17 72 ?_;refine tkB 18 73 ?_;refine tkB 19 74 ?_;refine tkB 20 75 ?_;refine tkB 21 76 ?_;refine tkB 22 77 ?_;refine tkB 23 78 ?_;refine tkE 24 79 ?_;refine tkA 25 80 ?_;refine wpAnyH_done (by kernel_rfl) ?_ _
        go_wp2
        go_ret
        exact⟨by rw[EV.out,NOALL.out BAD.out];rfl,HB5.out⟩
      ·by_cases hcv:cv=0
       ·have hc' : (cv != 0)=false:=by simp[hcv]
        have OK:=mh (show SK k=true from by rw[SE.out,if_pos rfl];exact dqt hcv);clear hcv
        go_wp2_with fail
        refine wp_region_held_drew (S:=fun w' => w'.cell? ⟨w.heap.size+1,0,none⟩=some (I O dl)∧w'.cell? ⟨w.heap.size+1,1,none⟩=some (I O ls)∧w'.cell? ⟨w.heap.size+1,2,none⟩=some (.slice (some ⟨bd,offd,none⟩) due.length dc)∧w'.cell? ⟨w.heap.size+1,3,none⟩=some (I O se)∧w'.cell? ⟨w.heap.size+1,4,none⟩=some (I O ki)∧w'.cell? ⟨w.heap.size+1,5,none⟩=some (I O ar)∧w'.cell? ⟨w.heap.size+1,6,none⟩=some (I O bo)∧w'.cell? ⟨w.heap.size,0,none⟩=some (.slice (some ⟨b,off,none⟩) sch.length sc)∧w'.cell? ⟨w.heap.size,9,none⟩=some (I O wd)∧w'.cell? ⟨wp.heap.size,0,none⟩=some (I O num)∧w'.cell? ⟨wp.heap.size,1,none⟩=some (.string nm)∧w'.cell? ⟨wp.heap.size,2,none⟩=some (I O o)∧w'.cell? ⟨wp.heap.size,3,none⟩=some (I O tn)∧w'.cell? ⟨wp.heap.size,4,none⟩=some (I O tm)∧w'.cell? ⟨wp.heap.size,5,none⟩=some (.slice tq tl tz)∧w'.cell? ⟨wp.heap.size,6,none⟩=some (.slice bp bn bc)∧w'.cell? ⟨wp.heap.size,7,none⟩=some (I O least)∧w'.cell? ⟨wp.heap.size,8,none⟩=some (I O ex)∧w'.cell? ⟨wp.heap.size,9,none⟩=some (.bool needs)∧w'.cell? ⟨bd,offd+k,none⟩=some (I O u)) (by kernel_rfl) KD (fun hHeld=>?_)
        refine tkA 0 55 ?_
        simp only[Act.put,mnA,mnB,mnC];refine tkD 1 56 ?_;refine rdA 2 57 (fun K hK=>?_);go_simp;(with_reducible refine cmo (NM.out _) ?_);rintro e w5 ⟨rfl,hb5⟩;have HB5:=mh (qZ mle HBX.drew hb5);have HC5:=mh (qZ mle HWX.drew hb5);have K5:=mh ((kd hb5 <| kd hb5 <| kd hb5 <| kd hb5 <| kc hb5 <| kc hb5 <| kc hb5 <| k1 hb5) KA);have V1:=mh (nll U1 hb5.size);have V2:=mh (nll U2 hb5.size);have V3:=mh (nll U3 hb5.size);have V4:=mh (nll U4 hb5.size);clear hb5
        go_wp2_with fail
        refine hK.out _ _ ?hSc0_2 (fun hHeld2=>?_)
        case hSc0_2=>exact K5.out
        clear hK K;refine tkD 3 58 ?_;refine tkD 4 59 ?_;refine tkB 5 60 ?_;refine tkB 6 61 ?_;refine tkB 7 62 ?_;refine tkB 8 63 ?_;refine tkB 9 64 ?_;refine tkE 10 65 ?_;refine tkD 11 66 ?_;refine tkD 12 67 ?_;refine tkD 13 68 ?_;refine tkD 14 69 ?_;refine rdA 15 70 (fun K hK=>?_);go_simp;(with_reducible refine cmo (NM.out _) ?_);rintro e w6 ⟨rfl,hb6⟩;have HB6:=mh (qZ mle HB5 hb6);have HC6:=mh (qZ mle HC5 hb6);have K6:=mh ((kd hb6 <| kd hb6 <| kd hb6 <| kd hb6 <| kc hb6 <| kc hb6 <| kc hb6 <| k1 hb6) K5);have X1:=mh (nll V1 hb6.size);have X2:=mh (nll V2 hb6.size);have X3:=mh (nll V3 hb6.size);have X4:=mh (nll V4 hb6.size);clear hb6
        go_wp2_with fail
        refine hK.out _ _ ?hSc0_15 (fun hHeld2=>?_)
        case hSc0_15=>exact K6.out
        clear hK K;refine tkD 16 71 ?_;refine tkD 17 72 ?_;refine tkD 18 73 ?_;refine tkD 20 75 ?_;refine tkD 21 76 ?_;refine rdA 19 74 (fun K hK=>?_);go_simp;(with_reducible refine cmo (FC.out _ HB6.out) ?_);rintro e w7 ⟨rfl,hb7⟩;have HB7:=mh (qZ mle HB6 hb7);have HC7:=mh (qZ mle HC6 hb7);have K7:=mh ((kd hb7 <| kd hb7 <| kd hb7 <| kd hb7 <| kc hb7 <| kc hb7 <| kc hb7 <| k1 hb7) K6);have Y1:=mh (nll X1 hb7.size);have Y2:=mh (nll X2 hb7.size);have Y3:=mh (nll X3 hb7.size);have Y4:=mh (nll X4 hb7.size);clear hb7
        go_wp2_with fail
        refine hK.out _ _ ?hSc0_19 (fun hHeld2=>?_)
        case hSc0_19=>exact K7.out
        clear hK K;refine rdA 22 77 (fun K hK=>?_);go_simp;(with_reducible refine cmo (CK.out _) ?_);rintro e w8 ⟨rfl,hb8⟩;have HB8:=mh (qZ mle HB7 hb8);have HC8:=mh (qZ mle HC7 hb8);have K8:=mh ((kd hb8 <| kd hb8 <| kd hb8 <| kd hb8 <| kc hb8 <| kc hb8 <| kc hb8 <| k1 hb8) K7);have Z1:=mh (nll Y1 hb8.size);have Z2:=mh (nll Y2 hb8.size);have Z3:=mh (nll Y3 hb8.size);have Z4:=mh (nll Y4 hb8.size);clear hb8
        go_wp2_with fail
        refine hK.out _ _ ?hSc0_22 (fun hHeld2=>?_)
        case hSc0_22=>exact K8.out
        clear hK K;refine tkD 23 78 ?_;refine tkD 24 79 ?_;refine tkA 25 80 ?_;refine wpAnyH_done (by kernel_rfl) ?_ _
        go_wp2
        go_roundw
        case rel=>exact⟨k+1,by omega,by go_num,fun j hj=>by
         by_cases e:j=k
         ·subst e;exact OK.out
         ·exact HAL j (by omega),HC8.out⟩
        case measure=>simp[intOf];omega
       ·have hc' : (cv != 0)=true:=by simpa using hcv
        have BAD:=mh (show SK k=false from by rw[SE.out,if_pos rfl];exact dqf hcv);clear hcv
        go_wp2_with fail
        refine wp_region_held_drew (S:=fun w' => w'.cell? ⟨w.heap.size+1,0,none⟩=some (I O dl)∧w'.cell? ⟨w.heap.size+1,1,none⟩=some (I O ls)∧w'.cell? ⟨w.heap.size+1,2,none⟩=some (.slice (some ⟨bd,offd,none⟩) due.length dc)∧w'.cell? ⟨w.heap.size+1,3,none⟩=some (I O se)∧w'.cell? ⟨w.heap.size+1,4,none⟩=some (I O ki)∧w'.cell? ⟨w.heap.size+1,5,none⟩=some (I O ar)∧w'.cell? ⟨w.heap.size+1,6,none⟩=some (I O bo)∧w'.cell? ⟨w.heap.size,0,none⟩=some (.slice (some ⟨b,off,none⟩) sch.length sc)∧w'.cell? ⟨w.heap.size,9,none⟩=some (I O wd)∧w'.cell? ⟨wp.heap.size,0,none⟩=some (I O num)∧w'.cell? ⟨wp.heap.size,1,none⟩=some (.string nm)∧w'.cell? ⟨wp.heap.size,2,none⟩=some (I O o)∧w'.cell? ⟨wp.heap.size,3,none⟩=some (I O tn)∧w'.cell? ⟨wp.heap.size,4,none⟩=some (I O tm)∧w'.cell? ⟨wp.heap.size,5,none⟩=some (.slice tq tl tz)∧w'.cell? ⟨wp.heap.size,6,none⟩=some (.slice bp bn bc)∧w'.cell? ⟨wp.heap.size,7,none⟩=some (I O least)∧w'.cell? ⟨wp.heap.size,8,none⟩=some (I O ex)∧w'.cell? ⟨wp.heap.size,9,none⟩=some (.bool needs)∧w'.cell? ⟨bd,offd+k,none⟩=some (I O u)) (by kernel_rfl) KD (fun hHeld=>?_)
        refine tkA 0 55 ?_
        simp only[Act.put,mnA,mnB,mnC];refine tkD 1 56 ?_;refine rdA 2 57 (fun K hK=>?_);go_simp;(with_reducible refine cmo (NM.out _) ?_);rintro e w5 ⟨rfl,hb5⟩;have HB5:=mh (qZ mle HBX.drew hb5);have HC5:=mh (qZ mle HWX.drew hb5);have K5:=mh ((kd hb5 <| kd hb5 <| kd hb5 <| kd hb5 <| kc hb5 <| kc hb5 <| kc hb5 <| k1 hb5) KA);have V1:=mh (nll U1 hb5.size);have V2:=mh (nll U2 hb5.size);have V3:=mh (nll U3 hb5.size);have V4:=mh (nll U4 hb5.size);clear hb5
        go_wp2_with fail
        refine hK.out _ _ ?hSd0_2 (fun hHeld2=>?_)
        case hSd0_2=>exact K5.out
        clear hK K;refine tkD 3 58 ?_;refine tkD 4 59 ?_;refine tkB 5 60 ?_;refine tkB 6 61 ?_;refine tkB 7 62 ?_;refine tkB 8 63 ?_;refine tkB 9 64 ?_;refine tkE 10 65 ?_;refine tkD 11 66 ?_;refine tkD 12 67 ?_;refine tkD 13 68 ?_;refine tkD 14 69 ?_;refine rdA 15 70 (fun K hK=>?_);go_simp;(with_reducible refine cmo (NM.out _) ?_);rintro e w6 ⟨rfl,hb6⟩;have HB6:=mh (qZ mle HB5 hb6);have HC6:=mh (qZ mle HC5 hb6);have K6:=mh ((kd hb6 <| kd hb6 <| kd hb6 <| kd hb6 <| kc hb6 <| kc hb6 <| kc hb6 <| k1 hb6) K5);have X1:=mh (nll V1 hb6.size);have X2:=mh (nll V2 hb6.size);have X3:=mh (nll V3 hb6.size);have X4:=mh (nll V4 hb6.size);clear hb6
        go_wp2_with fail
        refine hK.out _ _ ?hSd0_15 (fun hHeld2=>?_)
        case hSd0_15=>exact K6.out
        clear hK K;refine tkD 16 71 ?_;refine tkD 17 72 ?_;refine tkD 18 73 ?_;refine tkD 20 75 ?_;refine tkD 21 76 ?_;refine rdA 19 74 (fun K hK=>?_);go_simp;(with_reducible refine cmo (FC.out _ HB6.out) ?_);rintro e w7 ⟨rfl,hb7⟩;have HB7:=mh (qZ mle HB6 hb7);have HC7:=mh (qZ mle HC6 hb7);have K7:=mh ((kd hb7 <| kd hb7 <| kd hb7 <| kd hb7 <| kc hb7 <| kc hb7 <| kc hb7 <| k1 hb7) K6);have Y1:=mh (nll X1 hb7.size);have Y2:=mh (nll X2 hb7.size);have Y3:=mh (nll X3 hb7.size);have Y4:=mh (nll X4 hb7.size);clear hb7
        go_wp2_with fail
        refine hK.out _ _ ?hSd0_19 (fun hHeld2=>?_)
        case hSd0_19=>exact K7.out
        clear hK K;refine rdA 22 77 (fun K hK=>?_);go_simp;(with_reducible refine cmo (CK.out _) ?_);rintro e w8 ⟨rfl,hb8⟩;have HB8:=mh (qZ mle HB7 hb8);have HC8:=mh (qZ mle HC7 hb8);have K8:=mh ((kd hb8 <| kd hb8 <| kd hb8 <| kd hb8 <| kc hb8 <| kc hb8 <| kc hb8 <| k1 hb8) K7);have Z1:=mh (nll Y1 hb8.size);have Z2:=mh (nll Y2 hb8.size);have Z3:=mh (nll Y3 hb8.size);have Z4:=mh (nll Y4 hb8.size);clear hb8
        go_wp2_with fail
        refine hK.out _ _ ?hSd0_22 (fun hHeld2=>?_)
        case hSd0_22=>exact K8.out
        clear hK K;refine tkD 23 78 ?_;refine tkD 24 79 ?_;refine tkA 25 80 ?_;refine wpAnyH_done (by kernel_rfl) ?_ _
        go_wp2
        go_ret
        exact⟨by rw[EV.out,NOALL.out BAD.out];rfl,HB8.out⟩
     ·obtain rfl:k=sch.length:=by omega
      have E:=mh (show V=true from by rw[EV.out,List.all_eq_true];exact fun j hj=>HAL.out j (List.mem_range.1 hj));clear hall hb
      go_wp2
      go_ret
      exact⟨by rw[E.out];rfl,HBP.out⟩
end Go.Proofs.YtefcalgjnkigjaaGreat
