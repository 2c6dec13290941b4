/- Packed. -/
import Derived.Test.YtefcalgjnkigjaaGreatL32
set_option maxRecDepth 100000
set_option maxHeartbeats 4000000
open Go.Value renaming int → I
open Go.IntKind renaming i64 → O
namespace Go.Proofs.YtefcalgjnkigjaaGreat
open Go.RowKit Sc As
theorem Calls.drawnB {P:Program}{f:FuncId}{args:Array Value}{w:World}(v:Value)(h:Calls P f args w fun e w' => e = .returned v∧∃n,w' = w.drewN n):Calls P f args w fun e w' => e = .returned v∧Below w.heap.size w w' :=
 h.mono fun e w' hh=>⟨hh.1,by obtain⟨n,rfl⟩:=hh.2;exact qQ _ _⟩
theorem cH {Q:Nat→Prop}(d:Nat)(r:RY)(l:YLaw)(w:World)(h:YV Q w d r l)(hsc:r.sn≤r.sc) :
  Calls Tryz.prog 13 #[.agg (yCells r).toArray] w (kW (kG l) w):=by
 have hs0:=h.sch.len;obtain⟨sp,sn,sc,tp,tn,tc,ldue,llast,lmille,gp,gn,gc,cp,ev,un,wd⟩:=r;obtain⟨sch,steps,⟨ldue', llast', lmille'⟩,deg,cp', ev', un', wd'⟩:=l;have e1:=h.sn;have e2:=h.tn;have e3:=h.due;have e4:=h.last;have e5:=h.mille;have e6:=h.gn;have e7:=h.cap;have e8:=h.env;have e9:=h.unit;have e10:=h.width;simp only at e1 e2 e3 e4 e5 e6 e7 e8 e9 e10 hsc;subst e1 e2 e3 e4 e5 e6 e7 e8 e9 e10;have C17:=mh (fun (W:World) (hb:Below w.heap.size w W)=>kQ d sp sch sc W (h.sch.below hb) h.small hsc h.terms);have CR:=mh (fun (W:World) (hb:Below w.heap.size w W)=>Calls.drawnB _ (kL tp steps tc W (h.steps.below hb)));have CL:=mh (fun (W:World)=>uL ldue llast lmille W);have CC:=mh (fun (W:World) (hb:Below w.heap.size w W)=>Calls.drawnB _ (gP gp deg gc W (h.deg.below hb)));have HA:=mh (qK mle (brf w.heap.size w) (.cells #[.slice sp sch.length sc,.slice tp steps.length tc,I O ldue,I O llast,I O lmille,.slice gp deg.length gc,I O cp,I O ev,I O un,I O wd] 29))
 have EV:=mh (show kG ⟨sch,steps,⟨ldue,llast,lmille⟩,deg,cp,ev,un,wd⟩=if sch.length=0 then 17 else if (jU sch).2≠0 then (jU sch).2 else if Re.chk steps≠0 then Re.chk steps else if chkL ⟨ldue,llast,lmille⟩≠0 then chkL ⟨ldue,llast,lmille⟩ else if Ce.chk deg≠0 then Ce.chk deg
  else if En.money cp=false∨En.money ev=false then 67 else if un<1∨100000<un∨wd<0∨200<wd then 2 else 0 from rfl)
 obtain⟨V,eV⟩:∃V,kG ⟨sch,steps,⟨ldue,llast,lmille⟩,deg,cp,ev,un,wd⟩=V:=⟨_,rfl⟩;obtain⟨⟨v1,v2⟩,ev17⟩:∃v,jU sch=v:=⟨_,rfl⟩;obtain⟨x1,ex1⟩:∃x,Re.chk steps=x:=⟨_,rfl⟩;obtain⟨x2,ex2⟩:∃x,chkL ⟨ldue,llast,lmille⟩=x:=⟨_,rfl⟩;obtain⟨x3,ex3⟩:∃x,Ce.chk deg=x:=⟨_,rfl⟩;rw[eV,ev17,ex1,ex2,ex3]at EV;rw[eV];rw[ev17]at C17;rw[ex1]at CR;rw[ex2]at CL;rw[ex3]at CC;have MO1:=mh (fun (W:World)=>qL cp W);have MO2:=mh (fun (W:World)=>qL ev W);obtain⟨m1,em1⟩:∃m,En.money cp=m:=⟨_,rfl⟩;obtain⟨m2,em2⟩:∃m,En.money ev=m:=⟨_,rfl⟩;rw[em1,em2]at EV;rw[em1]at MO1;rw[em2]at MO2;clear eV ev17 ex1 ex2 ex3 h hsc em1 em2;simp only[yCells]
 by_cases hz:sch.length=0
 ·have E:=mh (show V=17 from by rw[EV.out,if_pos hz])
  clear EV C17 CR CL CC hs0;have hz' : ((sch.length:Int)==0)=true:=by rw[hz];rfl
  clear hz
  go_enter Tryz.func13,Tryz.ntmps13
  go_wp2
  go_ret
  exact⟨by rw[E.out];rfl,HA.out⟩
 have hz' : ((sch.length:Int)==0)=false:=by
  rw[← Bool.not_eq_true];intro e;exact hz (by simpa using e)
 have EV1:=mh (show V=if v2≠0 then v2 else if x1≠0 then x1 else if x2≠0 then x2 else if x3≠0 then x3 else if m1=false∨m2=false then 67 else if un<1∨100000<un∨wd<0∨200<wd then 2 else 0 from by rw[EV.out,if_neg hz]);clear EV hz
 by_cases hv0:v2=0
 rotate_left
 have EE:=mh (show V=v2 from by rw[EV1.out,if_pos hv0]);have hne:(v2 != 0)=true:=by simpa using hv0
 clear EV1 hv0
 rotate_right
 subst hv0
 by_cases hv1:x1=0
 rotate_left
 have EE:=mh (show V=x1 from by rw[EV1.out,if_neg (by decide),if_pos hv1]);have hne:(x1 != 0)=true:=by simpa using hv1
 clear EV1 hv1
 rotate_right
 subst hv1
 by_cases hv2:x2=0
 rotate_left
 have EE:=mh (show V=x2 from by rw[EV1.out,if_neg (by decide),if_neg (by decide),if_pos hv2]);have hne:(x2 != 0)=true:=by simpa using hv2
 clear EV1 hv2
 rotate_right
 subst hv2
 by_cases hv3:x3=0
 rotate_left
 have EE:=mh (show V=x3 from by rw[EV1.out,if_neg (by decide),if_neg (by decide),if_neg (by decide),if_pos hv3]);have hne:(x3 != 0)=true:=by simpa using hv3
 clear EV1 hv3
 rotate_right
 subst hv3;have E:=mh (show V=if m1=false∨m2=false then 67 else if un<1∨100000<un∨wd<0∨200<wd then 2 else 0 from by rw[EV1.out,if_neg (by decide),if_neg (by decide),if_neg (by decide),if_neg (by decide)]);clear EV1
 cases m1
 have EE:=mh (show V=67 from by rw[E.out,if_pos (.inl rfl)]);clear E
 rotate_left
 cases m2
 have EE:=mh (show V=67 from by rw[E.out,if_pos (.inr rfl)]);clear E
 rotate_left
 have E1:=mh (show V=if un<1∨100000<un∨wd<0∨200<wd then 2 else 0 from by rw[E.out,if_neg (by decide)]);clear E
 by_cases u0:un<1
 have EE:=mh (show V=2 from by rw[E1.out,if_pos (.inl u0)]);clear E1
 rotate_left
 by_cases u1:100000<un
 have EE:=mh (show V=2 from by rw[E1.out,if_pos (.inr (.inl u1))]);clear E1
 rotate_left
 by_cases u2:wd<0
 have EE:=mh (show V=2 from by rw[E1.out,if_pos (.inr (.inr (.inl u2)))]);clear E1
 rotate_left
 by_cases u3:200<wd
 have EE:=mh (show V=2 from by rw[E1.out,if_pos (.inr (.inr (.inr u3)))]);clear E1
 rotate_left
 have EE:=mh (show V=0 from by rw[E1.out,if_neg (by omega)]);clear E1
 all_goals
  go_enter Tryz.func13,Tryz.ntmps13
  go_wp2_with (first|(go_at_call 52;(with_reducible refine cmo (C17.out _ HA.out) ?_);rintro e w1 ⟨rfl,hb1⟩;have HB1:=mh (qZ mle HA.out hb1);have S1:=mh (show w.heap.size<w1.heap.size from nll (by simp) hb1.size);have K1:=qJ hb1 1;have K2:=qJ hb1 2;have K3:=qJ hb1 3;have K4:=qJ hb1 4;have K5:=qJ hb1 5;have K6:=qJ hb1 6;have K7:=qJ hb1 7;have K8:=qJ hb1 8;have K9:=qJ hb1 9;clear hb1)|(go_at_call 53;(with_reducible refine cmo (CR.out _ HB1.out) ?_);rintro e w2 ⟨rfl,hb2⟩;have HB2:=mh (qZ mle HB1.out hb2);have S2:=mh (show w.heap.size<w2.heap.size from nll S1.out hb2.size);have L1:=(hb2.cell (p:=⟨w.heap.size,1,none⟩) S1.out).trans K1;have L2:=(hb2.cell (p:=⟨w.heap.size,2,none⟩) S1.out).trans K2;have L3:=(hb2.cell (p:=⟨w.heap.size,3,none⟩) S1.out).trans K3;have L4:=(hb2.cell (p:=⟨w.heap.size,4,none⟩) S1.out).trans K4;have L5:=(hb2.cell (p:=⟨w.heap.size,5,none⟩) S1.out).trans K5;have L6:=(hb2.cell (p:=⟨w.heap.size,6,none⟩) S1.out).trans K6;have L7:=(hb2.cell (p:=⟨w.heap.size,7,none⟩) S1.out).trans K7;have L8:=(hb2.cell (p:=⟨w.heap.size,8,none⟩) S1.out).trans K8;have L9:=(hb2.cell (p:=⟨w.heap.size,9,none⟩) S1.out).trans K9;clear hb2)|(go_at_call 54;(with_reducible refine cmo (CL.out _) ?_);rintro e w3 ⟨rfl,hb3⟩;have HB3:=mh (qZ mle HB2.out hb3);have S3:=mh (show w.heap.size<w3.heap.size from nll S2.out hb3.size);have M1:=(hb3.cell (p:=⟨w.heap.size,1,none⟩) S2.out).trans L1;have M2:=(hb3.cell (p:=⟨w.heap.size,2,none⟩) S2.out).trans L2;have M3:=(hb3.cell (p:=⟨w.heap.size,3,none⟩) S2.out).trans L3;have M4:=(hb3.cell (p:=⟨w.heap.size,4,none⟩) S2.out).trans L4;have M5:=(hb3.cell (p:=⟨w.heap.size,5,none⟩) S2.out).trans L5;have M6:=(hb3.cell (p:=⟨w.heap.size,6,none⟩) S2.out).trans L6;have M7:=(hb3.cell (p:=⟨w.heap.size,7,none⟩) S2.out).trans L7;have M8:=(hb3.cell (p:=⟨w.heap.size,8,none⟩) S2.out).trans L8;have M9:=(hb3.cell (p:=⟨w.heap.size,9,none⟩) S2.out).trans L9;clear hb3)|(go_at_call 55;(with_reducible refine cmo (CC.out _ HB3.out) ?_);rintro e w4 ⟨rfl,hb4⟩;have HB4:=mh (qZ mle HB3.out hb4);have S4:=mh (show w.heap.size<w4.heap.size from nll S3.out hb4.size);have N1:=(hb4.cell (p:=⟨w.heap.size,1,none⟩) S3.out).trans M1;have N2:=(hb4.cell (p:=⟨w.heap.size,2,none⟩) S3.out).trans M2;have N3:=(hb4.cell (p:=⟨w.heap.size,3,none⟩) S3.out).trans M3;have N4:=(hb4.cell (p:=⟨w.heap.size,4,none⟩) S3.out).trans M4;have N5:=(hb4.cell (p:=⟨w.heap.size,5,none⟩) S3.out).trans M5;have N6:=(hb4.cell (p:=⟨w.heap.size,6,none⟩) S3.out).trans M6;have N7:=(hb4.cell (p:=⟨w.heap.size,7,none⟩) S3.out).trans M7;have N8:=(hb4.cell (p:=⟨w.heap.size,8,none⟩) S3.out).trans M8;have N9:=(hb4.cell (p:=⟨w.heap.size,9,none⟩) S3.out).trans M9;clear hb4)|(go_at_call 56;(with_reducible refine cmo (MO1.out _) ?_);rintro e w6 ⟨rfl,rfl⟩)|(go_at_call 56;(with_reducible refine cmo (MO2.out _) ?_);rintro e w7 ⟨rfl,rfl⟩)|fail)
  go_ret
  exact⟨by rw[EE.out];rfl,by first|exact HB4.out|exact HB3.out|exact HB2.out|exact HB1.out⟩
end Go.Proofs.YtefcalgjnkigjaaGreat
