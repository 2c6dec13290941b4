/- Packed. -/
import Derived.Test.YtefcalgjnkigjaaGreatL31
set_option maxRecDepth 100000
set_option maxHeartbeats 8000000
open Go.Value renaming int → I
open Go.IntKind renaming i64 → O
namespace Go.Proofs.YtefcalgjnkigjaaGreat
open Go.RowKit Sc
def As.limV (f:As.Fct) (width r:Int):Int × Bool :=
 if r=1 then (f.due,true) else if r=2 then (0,decide (f.season = -1)&&decide (f.kind=0)) else if r=3 then (0,decide (f.kind=4)) else if r=4 then (0,decide (f.kind=3)) else if r=5 then (0,decide (f.kind=2))
 else (As.accept f.decl f.area f.border width,decide (f.kind=1))
def As.LmG (v:Int × Bool) (w:World) (e:Ending) (w' : World):Prop:=e = .returned (.tuple #[I O v.1,.bool v.2])∧Below w.heap.size w w'
theorem cD (f:As.Fct)(width r:Int)(w:World)(hf:As.FactOk f)(w0:0≤width)(w1:width≤200)(r1:1≤r)(r6:r≤6) :
  Calls Tryz.prog 106 #[.agg #[I O f.decl,I O f.due,I O f.season,I O f.kind,I O f.area,I O f.border],I O width,I O r] w (As.LmG (As.limV f width r) w):=by
 have d0:=hf.d0;have d1:=hf.d1;have hm:As.measB f.area f.border=true:=As.measB_iff.2 ⟨hf.a0,hf.a1,hf.b0,hf.b1⟩;clear hf;obtain⟨d,u,s,k,a,b⟩:=f;simp only at d0 d1 hm;have AC:=mh (fun (W:World)=>cW d a b width W hm w0 w1 d0 d1);have HA:=mh (qK mle (brf w.heap.size w) (.cells #[I O d,I O u,I O s,I O k,I O a,I O b] 126));clear d0 d1 hm w0 w1
 rcases (show r=1∨r=2∨r=3∨r=4∨r=5∨r=6 by omega) with rfl|rfl|rfl|rfl|rfl|rfl
 ·have EV:=mh (show As.limV ⟨d,u,s,k,a,b⟩ width 1=(u,true) from rfl)
  rw[EV.out]
  go_enter Tryz.func106,Tryz.ntmps106
  go_wp2
  go_ret2
  exact⟨rfl,HA.out⟩
 ·by_cases hs:s = -1
  ·subst hs
   have EV:=mh (show As.limV ⟨d,u, -1,k,a,b⟩ width 2=(0,k==0) from by unfold As.limV;simp;rfl);rw[EV.out]
   go_enter Tryz.func106,Tryz.ntmps106
   go_wp2
   go_quiet (fail)
   go_wp2
   go_ret2
   exact⟨rfl,qH HA.out HA.size (qQ _ _)⟩
  ·have EV:=mh (show As.limV ⟨d,u,s,k,a,b⟩ width 2=(0,false) from by unfold As.limV;simp[hs])
   rw[EV.out];have hb:(s == -1)=false:=by simpa using hs
   clear hs
   go_enter Tryz.func106,Tryz.ntmps106
   go_wp2
   go_quiet (fail)
   go_wp2
   go_ret2
   exact⟨rfl,qH HA.out HA.size (qQ _ _)⟩
 ·have EV:=mh (show As.limV ⟨d,u,s,k,a,b⟩ width 3=(0,k==4) from by unfold As.limV;simp;rfl)
  rw[EV.out]
  go_enter Tryz.func106,Tryz.ntmps106
  go_wp2
  go_quiet (fail)
  go_wp2
  go_ret2
  exact⟨rfl,qH HA.out HA.size (qQ _ _)⟩
 ·have EV:=mh (show As.limV ⟨d,u,s,k,a,b⟩ width 4=(0,k==3) from by unfold As.limV;simp;rfl)
  rw[EV.out]
  go_enter Tryz.func106,Tryz.ntmps106
  go_wp2
  go_quiet (fail)
  go_wp2
  go_ret2
  exact⟨rfl,qH HA.out HA.size (qQ _ _)⟩
 ·have EV:=mh (show As.limV ⟨d,u,s,k,a,b⟩ width 5=(0,k==2) from by unfold As.limV;simp;rfl)
  rw[EV.out]
  go_enter Tryz.func106,Tryz.ntmps106
  go_wp2
  go_quiet (fail)
  go_wp2
  go_ret2
  exact⟨rfl,qH HA.out HA.size (qQ _ _)⟩
 ·have EV:=mh (show As.limV ⟨d,u,s,k,a,b⟩ width 6=(As.accept d a b width,k==1) from by unfold As.limV;simp;rfl)
  rw[EV.out];obtain⟨V,eV⟩:∃V,As.accept d a b width=V:=⟨_,rfl⟩;rw[eV]at AC ⊢;clear eV EV
  go_enter Tryz.func106,Tryz.ntmps106
  go_wp2_with (go_at_call 154;(with_reducible refine cmo (AC.out _) ?_);rintro e w1 ⟨rfl,hb1⟩;have HB1:=mh (qZ mle HA.out hb1);have C3:=qJ hb1 3;clear hb1)
  go_quiet (fail)
  go_wp2
  go_ret2
  exact⟨rfl,qH HB1.out HB1.size (qQ _ _)⟩
def As.rpick (f:As.Fct) (width:Int):Nat→Int × Int
 | 0=>(f.decl,0)
 | n+1=>if (As.limV f width (n+1)).2=true∧(As.limV f width (n+1)).1<(As.rpick f width n).1 then ((As.limV f width (n+1)).1,n+1) else As.rpick f width n
theorem As.rpick_det {f:As.Fct}(width:Int)(h:As.FactOk f):As.rpick f width 6=As.det f width:=by
 have k0:=h.k0;have k1:=h.k1;clear h;obtain⟨d,u,s,k,a,b⟩:=f;simp only at k0 k1
 rcases (show k=0∨k=1∨k=2∨k=3∨k=4 by omega) with rfl|rfl|rfl|rfl|rfl
 ·by_cases hs:s = -1
  ·subst hs
   simp[As.rpick,As.limV,As.det,As.lim,As.det1]
  ·simp[As.rpick,As.limV,As.det,As.lim,As.det1,hs]
 all_goals simp[As.rpick,As.limV,As.det,As.lim,As.det1]
theorem wB (f:As.Fct)(width:Int)(w:World) :
  Calls Tryz.prog 68 #[.agg #[I O f.decl,I O f.due,I O f.season,I O f.kind,I O f.area,I O f.border],I O width] w (As.DetG (As.detV f width) (As.chk28 f width) w):=by
 by_cases hc:As.chk28 f width=0
 rotate_left
 ·have EV:=mh (show As.detV f width=(0,0) from by unfold As.detV;rw[if_neg hc])
  obtain⟨V,eV⟩:∃V,As.detV f width=V:=⟨_,rfl⟩;rw[eV]at EV ⊢;clear eV;obtain⟨d,u,s,k,a,b⟩:=f;have CK:=mh (fun (W:World)=>kJ d u s k a b width W);have HA:=mh (qK mle (brf w.heap.size w) (.cells #[I O d,I O u,I O s,I O k,I O a,I O b] 126));obtain⟨v,ev⟩:∃v,As.chk28 ⟨d,u,s,k,a,b⟩ width=v:=⟨_,rfl⟩;rw[ev]at CK hc ⊢;clear ev;have hne:(v != 0)=true:=by simpa using hc
  clear hc
  go_enter Tryz.func68,Tryz.ntmps68
  go_wp2_with (go_at_call 93;(with_reducible refine cmo (CK.out _) ?_);rintro e w1 ⟨rfl,hb1⟩;have HB1:=mh (qZ mle HA.out hb1);have C0:=qJ hb1 0;have C1:=qJ hb1 1;have C2:=qJ hb1 2;have C3:=qJ hb1 3;have C4:=qJ hb1 4;have C5:=qJ hb1 5;have S1:=mh (show w.heap.size<w1.heap.size from nll (by simp) hb1.size);clear hb1)
  go_ret3
  exact⟨by rw[EV.out];rfl,HB1.out⟩
 ·obtain⟨hf,w0,w1⟩:=As.chk28_zero hc
  have EV:=mh (show As.detV f width=As.rpick f width 6 from by unfold As.detV;rw[if_pos hc,As.rpick_det width hf]);have LM:=mh (fun (W:World) (r:Int) (r1:1≤r) (r6:r≤6)=>cD f width r W hf w0 w1 r1 r6);obtain⟨V,eV⟩:∃V,As.detV f width=V:=⟨_,rfl⟩;rw[eV]at EV ⊢;clear eV hf w0 w1;rw[hc];obtain⟨F,eF⟩:∃F:As.Fct,f=F:=⟨_,rfl⟩;have PS:=mh (fun n:Nat=>show As.rpick F width (n+1)=if (As.limV F width (n+1)).2=true∧(As.limV F width (n+1)).1<(As.rpick F width n).1 then ((As.limV F width (n+1)).1,(n+1:Int)) else As.rpick F width n from rfl);have P0:=mh (show As.rpick F width 0=(f.decl,0) from by rw[← eF];rfl);obtain⟨G,eG⟩:∃G,As.rpick F width=G:=⟨_,rfl⟩;obtain⟨LV,eLV⟩:∃LV,As.limV F width=LV:=⟨_,rfl⟩;have LM2:=mh (fun (W:World) (r:Int) (r1:1≤r) (r6:r≤6)=>show Calls Tryz.prog 106 #[.agg #[I O f.decl,I O f.due,I O f.season,I O f.kind,I O f.area,I O f.border],I O width,I O r] W (As.LmG (LV r) W) from by rw[← eLV,← eF];exact LM.out W r r1 r6);rw[eF,eG]at EV;rw[eG]at PS P0;rw[eLV]at PS;clear LM;obtain⟨d,u,s,k,a,b⟩:=f;have CK:=mh (fun (W:World)=>kJ d u s k a b width W);rw[hc]at CK;clear hc eF eG eLV;simp only at LM2 P0;have HA:=mh (qK mle (brf w.heap.size w) (.cells #[I O d,I O u,I O s,I O k,I O a,I O b] 126))
  go_enter Tryz.func68,Tryz.ntmps68
  go_wp2_with (go_at_call 93;(with_reducible refine cmo (CK.out _) ?_);rintro e w1 ⟨rfl,hb1⟩;have HB1:=mh (qZ mle HA.out hb1);have C0:=qJ hb1 0;have C1:=qJ hb1 1;have C2:=qJ hb1 2;have C3:=qJ hb1 3;have C4:=qJ hb1 4;have C5:=qJ hb1 5;have S1:=mh (show w.heap.size<w1.heap.size from nll (by simp) hb1.size);clear hb1)
  go_loopw [8,9,10] (fun x y i wr=>∃n:Nat,n≤6∧i=I O ((n:Int)+1)∧x=I O (G n).1∧y=I O (G n).2∧Below w1.heap.size w1 wr) (fun _ _ i _=>7 - (intOf i).toNat)
  case atStart=>exact⟨0,by omega,rfl,by rw[P0.out],by rw[P0.out],brf _ _⟩
  case round =>
   obtain⟨wo,rfl⟩:∃wo:World,wo=wr:=⟨_,rfl⟩;obtain⟨n,hn,rfl,rfl,rfl,hb⟩:=hrel;have HB:=mh hb;have hn0:(0:Int)≤(n:Int):=inn _
   by_cases hlt:n<6
   ·have hn1:(n:Int)<6:=by omega
    have L1:=mh (fun (W:World)=>LM2.out W ((n:Int)+1) (by omega) (by omega));have K0:=(hb.cell (p:=⟨w.heap.size,0,none⟩) S1.out).trans C0;have K1:=(hb.cell (p:=⟨w.heap.size,1,none⟩) S1.out).trans C1;have K2:=(hb.cell (p:=⟨w.heap.size,2,none⟩) S1.out).trans C2;have K3:=(hb.cell (p:=⟨w.heap.size,3,none⟩) S1.out).trans C3;have K4:=(hb.cell (p:=⟨w.heap.size,4,none⟩) S1.out).trans C4;have K5:=(hb.cell (p:=⟨w.heap.size,5,none⟩) S1.out).trans C5;have PN:=PS.out n;obtain⟨v,ok,ev⟩:∃v ok,LV ((n:Int)+1)=(v,ok):=⟨_,_,rfl⟩;obtain⟨A,R,eA⟩:∃A R,G n=(A,R):=⟨_,_,rfl⟩;rw[ev]at L1 PN;rw[eA]at PN ⊢;simp only at PN ⊢;clear hb ev;have EA:=mh eA;clear eA
    cases ok
    ·have P:=mh (show G (n+1)=(A,R) from by rw[PN,if_neg (by simp)])
     clear PN
     go_wp2_with (go_at_call 106;(with_reducible refine cmo (L1.out _) ?_);rintro e w2 ⟨rfl,hb2⟩;have HB2:=mh (qZ mle HB.out hb2);clear hb2)
     go_roundw
     case rel=>exact⟨n+1,by omega,by go_num,by rw[P.out],by rw[P.out],HB2.out⟩
     case measure=>simp[intOf];omega
    ·by_cases hcmp:v<A
     ·have P:=mh (show G (n+1)=(v,(n:Int)+1) from by rw[PN,if_pos ⟨rfl,hcmp⟩])
      clear PN
      go_wp2_with (go_at_call 106;(with_reducible refine cmo (L1.out _) ?_);rintro e w2 ⟨rfl,hb2⟩;have HB2:=mh (qZ mle HB.out hb2);clear hb2)
      go_roundw
      case rel=>exact⟨n+1,by omega,by go_num,by rw[P.out],by rw[P.out],HB2.out⟩
      case measure=>simp[intOf];omega
     ·have P:=mh (show G (n+1)=(A,R) from by rw[PN,if_neg (fun h=>hcmp h.2)])
      clear PN
      go_wp2_with (go_at_call 106;(with_reducible refine cmo (L1.out _) ?_);rintro e w2 ⟨rfl,hb2⟩;have HB2:=mh (qZ mle HB.out hb2);clear hb2)
      go_roundw
      case rel=>exact⟨n+1,by omega,by go_num,by rw[P.out],by rw[P.out],HB2.out⟩
      case measure=>simp[intOf];omega
   ·obtain rfl:n=6:=by omega
    have HB3:=mh (qZ mle HB1.out hb);clear hb
    go_wp2
    go_ret3
    exact⟨by rw[EV.out];rfl,HB3.out⟩
theorem uL (d l m:Int)(w:World):Calls Tryz.prog 54 #[.agg #[I O d,I O l,I O m]] w fun e w' => e = .returned (I O (As.chkL ⟨d,l,m⟩))∧Below w.heap.size w w' :=by
 have HA:=mh (qK mle (brf w.heap.size w) (.cells #[I O d,I O l,I O m] 26));obtain⟨v,ev⟩:∃v,As.chkL ⟨d,l,m⟩=v:=⟨_,rfl⟩;have hv:(d<0∧v=66)∨(¬d<0∧l<d∧v=66)∨(¬d<0∧¬l<d∧36864<l∧v=66)∨(¬d<0∧¬l<d∧¬36864<l∧m<0∧v=66)∨(¬d<0∧¬l<d∧¬36864<l∧¬m<0∧1000<m∧v=66)∨(¬d<0∧¬l<d∧¬36864<l∧¬m<0∧¬1000<m∧v=0):=by
  rw[← ev];unfold As.chkL;simp only
  split<;>omega
 rw[ev];clear ev
 rcases hv with⟨h1,rfl⟩|⟨h1,h2,rfl⟩|⟨h1,h2,h3,rfl⟩|⟨h1,h2,h3,h4,rfl⟩|⟨h1,h2,h3,h4,h5,rfl⟩|⟨h1,h2,h3,h4,h5,rfl⟩
 all_goals
  go_enter Tryz.func54,Tryz.ntmps54
  go_wp2
  go_ret
  exact⟨rfl,HA.out⟩
theorem sU (n:Int)(w:World)(h0:0≤n)(h1:n≤36864):Calls Tryz.prog 189 #[I O n] w fun e w' => e = .returned (.bool (decide (n % 7<5)))∧w=w' :=by
 by_cases h:n % 7<5
 ·rw[dqt h]
  go_enter Tryz.func189,Tryz.ntmps189
  go_wp2
  go_ret
  exact⟨rfl,rfl⟩
 ·rw[dqf h]
  go_enter Tryz.func189,Tryz.ntmps189
  go_wp2
  go_ret
  exact⟨rfl,rfl⟩
theorem pS (a b:Int)(w:World)(a0:0≤a)(a1:a≤36864)(b0:0≤b)(b1:b≤36864):Calls Tryz.prog 151 #[I O a,I O b] w fun e w' => e = .returned (I O (As.days a b))∧w=w' :=by
 have EV:=mh (show As.days a b=if b≤a then 0 else As.bef (b+1) - As.bef (a+1) from by
  unfold As.days As.dayB
  by_cases h:b≤a
  ·rw[if_pos h,if_pos (.inr (.inr h))]
  ·rw[if_neg h,if_neg]
   simp only[Bool.and_eq_false_iff,decide_eq_false_iff_not]
   omega)
 obtain⟨V,eV⟩:∃V,As.days a b=V:=⟨_,rfl⟩;rw[eV]at EV ⊢;clear eV;have WK:=mh (fun (W:World) (n:Int) (h0:0≤n) (h1:n≤36864)=>sU n W h0 h1);have hw1:IntKind.i64.wrap (a+1)=a+1:=by rw[IntKind.wrap_i64];omega
 obtain⟨B,eB⟩:∃B,As.bef=B:=⟨_,rfl⟩;have BS:=mh (fun (d:Int) (h:0≤d)=>eB▸As.bef_succ h);have BD:=mh (fun (d:Int) (h:0≤d) (h1:d≤36865)=>show 0≤B d∧B d≤36865 from by rw[← eB];unfold As.bef;omega);rw[eB]at EV;clear eB
 go_enter Tryz.func151,Tryz.ntmps151
 go_wp2
 go_loop [5,6] (fun x i=>∃j:Nat,(j:Int)≤max 0 (b - a)∧i=I O (a+1+j)∧x=I O (B (a+1+j) - B (a+1))) (fun _ i=>(b+1 - intOf i).toNat)
 case atStart=>exact⟨0,by omega,by simp,by simp⟩
 case round =>
  obtain⟨j,hj,rfl,rfl⟩:=hrel;have hj0:(0:Int)≤(j:Int):=inn _
  by_cases hlt:a+1+(j:Int)≤b
  ·have k1:=BD.out (a+1+j) (by omega) (by omega)
   have k2:=BD.out (a+1) (by omega) (by omega);have k3:=BD.out (a+1+j+1) (by omega) (by omega);have ST:=BS.out (a+1+j) (by omega);have W1:=mh (fun W=>WK.out W (a+1+j) (by omega) (by omega));have hw2:IntKind.i64.wrap (a+1+(j:Int)+1)=a+1+j+1:=by rw[IntKind.wrap_i64];omega
   by_cases h5:(a+1+(j:Int)) % 7<5
   ·rw[dqt h5]at W1
    rw[if_pos h5]at ST;have hw3:IntKind.i64.wrap (B (a+1+(j:Int)) - B (a+1)+1)=B (a+1+(j:Int)) - B (a+1)+1:=by rw[IntKind.wrap_i64];omega
    have STH:=mh ST;clear ST k3
    go_wp2_with (go_at_call 189;(with_reducible refine cmo (W1.out _) ?_);rintro e w1 ⟨rfl,rfl⟩)
    go_round
    case rel=>exact⟨j+1,by omega,by congr 1;push_cast;omega,by have:=STH.out;congr 1;push_cast;rw[show a+1+((j:Int)+1)=a+1+j+1 by omega];omega⟩
    case measure=>simp[intOf];omega
   ·rw[dqf h5]at W1
    rw[if_neg h5]at ST;have STH:=mh ST;clear ST k3
    go_wp2_with (go_at_call 189;(with_reducible refine cmo (W1.out _) ?_);rintro e w1 ⟨rfl,rfl⟩)
    go_round
    case rel=>exact⟨j+1,by omega,by congr 1;push_cast;omega,by have:=STH.out;congr 1;push_cast;rw[show a+1+((j:Int)+1)=a+1+j+1 by omega];omega⟩
    case measure=>simp[intOf];omega
  ·go_wp2
   go_ret
   refine⟨ret_i ?_,rfl⟩
   rw[EV.out]
   by_cases h:b≤a
   ·rw[if_pos h,show(j:Int)=0 by omega];simp
   ·rw[if_neg h,show a+1+(j:Int)=b+1 by omega]
theorem rP (d l m at_ qU:Int)(w:World):Calls Tryz.prog 104 #[.agg #[I O d,I O l,I O m],I O at_,I O qU] w (As.PayG (As.payV ⟨d,l,m⟩ at_ qU,As.payE ⟨d,l,m⟩ at_ qU) w):=by
 have HA:=mh (qK mle (brf w.heap.size w) (.cells #[I O d,I O l,I O m] 26));have CK:=mh (fun (W:World)=>uL d l m W)
 rcases As.pay_cases ⟨d,l,m⟩ at_ qU with⟨h1,hE,hV⟩|⟨h1,h2,hE,hV⟩|⟨h1,h2,h3,hE,hV⟩|⟨h1,h2,h3,h4,hE,hV⟩|⟨h1,h2,h3,h4,hE,hV⟩
 ·rw[hE,hV];rw[h1]at CK
  go_enter Tryz.func104,Tryz.ntmps104
  go_wp2_with (go_at_call 54;(with_reducible refine cmo (CK.out _) ?_);rintro e w1 ⟨rfl,hb1⟩;have HB1:=mh (qZ mle HA.out hb1);have C0:=qJ hb1 0;have C1:=qJ hb1 1;have C2:=qJ hb1 2;have S1:=mh (show w.heap.size<w1.heap.size from nll (by simp) hb1.size);clear hb1)
  go_ret2
  exact⟨rfl,HB1.out⟩
 ·rw[hE,hV];rw[h1]at CK
  have h2' : ¬(0≤at_∧at_≤36864):=by unfold As.dayB at h2;simpa using h2
  clear h2
  by_cases k:at_<0
  ·go_enter Tryz.func104,Tryz.ntmps104
   go_wp2_with (go_at_call 54;(with_reducible refine cmo (CK.out _) ?_);rintro e w1 ⟨rfl,hb1⟩;have HB1:=mh (qZ mle HA.out hb1);have C0:=qJ hb1 0;have C1:=qJ hb1 1;have C2:=qJ hb1 2;have S1:=mh (show w.heap.size<w1.heap.size from nll (by simp) hb1.size);clear hb1)
   go_ret2
   exact⟨rfl,HB1.out⟩
  ·have k2:36864<at_:=by omega
   clear h2'
   go_enter Tryz.func104,Tryz.ntmps104
   go_wp2_with (go_at_call 54;(with_reducible refine cmo (CK.out _) ?_);rintro e w1 ⟨rfl,hb1⟩;have HB1:=mh (qZ mle HA.out hb1);have C0:=qJ hb1 0;have C1:=qJ hb1 1;have C2:=qJ hb1 2;have S1:=mh (show w.heap.size<w1.heap.size from nll (by simp) hb1.size);clear hb1)
   go_ret2
   exact⟨rfl,HB1.out⟩
 all_goals
  have hday:0≤at_∧at_≤36864:=by unfold As.dayB at h2;simpa using h2
  obtain⟨t0,t1⟩:=hday;clear h2
 ·rw[hE,hV];rw[h1]at CK
  go_enter Tryz.func104,Tryz.ntmps104
  go_wp2_with (go_at_call 54;(with_reducible refine cmo (CK.out _) ?_);rintro e w1 ⟨rfl,hb1⟩;have HB1:=mh (qZ mle HA.out hb1);have C0:=qJ hb1 0;have C1:=qJ hb1 1;have C2:=qJ hb1 2;have S1:=mh (show w.heap.size<w1.heap.size from nll (by simp) hb1.size);clear hb1)
  go_ret2
  exact⟨rfl,HB1.out⟩
 ·rw[hE,hV];rw[h1]at CK
  go_enter Tryz.func104,Tryz.ntmps104
  go_wp2_with (go_at_call 54;(with_reducible refine cmo (CK.out _) ?_);rintro e w1 ⟨rfl,hb1⟩;have HB1:=mh (qZ mle HA.out hb1);have C0:=qJ hb1 0;have C1:=qJ hb1 1;have C2:=qJ hb1 2;have S1:=mh (show w.heap.size<w1.heap.size from nll (by simp) hb1.size);clear hb1)
  go_ret2
  exact⟨rfl,HB1.out⟩
 have LO:=As.latOk h1;have k1:=LO.d0;have k2:=LO.d1;have k3:=LO.d2;have k4:=LO.m0;have k5:=LO.m1;simp only at k1 k2 k3 k4 k5;rw[hE,hV];rw[h1]at CK;have DY:=mh (fun (W:World)=>pS d at_ W k1 (by omega) t0 t1)
 by_cases h5:at_≤d
 ·have EV:=mh (show As.left ⟨d,l,m⟩ at_ qU=qU from by unfold As.left;rw[if_pos h5])
  rw[EV.out]
  go_enter Tryz.func104,Tryz.ntmps104
  go_wp2_with (go_at_call 54;(with_reducible refine cmo (CK.out _) ?_);rintro e w1 ⟨rfl,hb1⟩;have HB1:=mh (qZ mle HA.out hb1);have C0:=qJ hb1 0;have C1:=qJ hb1 1;have C2:=qJ hb1 2;have S1:=mh (show w.heap.size<w1.heap.size from nll (by simp) hb1.size);clear hb1)
  go_ret2
  exact⟨rfl,HB1.out⟩
 by_cases h6:l<at_
 ·have EV:=mh (show As.left ⟨d,l,m⟩ at_ qU=0 from by unfold As.left;rw[if_neg h5,if_pos h6])
  rw[EV.out]
  go_enter Tryz.func104,Tryz.ntmps104
  go_wp2_with (go_at_call 54;(with_reducible refine cmo (CK.out _) ?_);rintro e w1 ⟨rfl,hb1⟩;have HB1:=mh (qZ mle HA.out hb1);have C0:=qJ hb1 0;have C1:=qJ hb1 1;have C2:=qJ hb1 2;have S1:=mh (show w.heap.size<w1.heap.size from nll (by simp) hb1.size);clear hb1)
  go_ret2
  exact⟨rfl,HB1.out⟩
 obtain⟨N,eN⟩:∃N,As.days d at_=N:=⟨_,rfl⟩;have hN:=As.days_bd d at_;rw[eN]at hN DY;have hm0:0≤m*N:=Int.mul_nonneg k4 hN.1;have hm1:m*N≤1000*36864:=Int.mul_le_mul k5 hN.2 hN.1 (by omega);obtain⟨X,eX⟩:∃X,m*N=X:=⟨_,rfl⟩;have EV:=mh (show As.left ⟨d,l,m⟩ at_ qU=qU*max 0 (1000 - X) / 1000 from by unfold As.left;rw[if_neg h5,if_neg h6];simp only;rw[eN,eX]);rw[eX]at hm0 hm1;have hw1:IntKind.i64.wrap (m*N)=X:=by rw[eX,IntKind.wrap_i64];omega
 have hw2:IntKind.i64.wrap (1000 - X)=1000 - X:=by rw[IntKind.wrap_i64];omega
 have a0:0≤qU:=by omega
 obtain⟨V,eV⟩:∃V,As.left ⟨d,l,m⟩ at_ qU=V:=⟨_,rfl⟩;rw[eV]at EV ⊢;clear eV eX eN hN LO hE hV
 by_cases hx:1000 - X≤0
 ·have E0:=mh (show V=0 from by rw[EV.out,show max 0 (1000 - X)=0 by omega];simp)
  rw[E0.out]
  go_enter Tryz.func104,Tryz.ntmps104
  go_wp2_with (go_at_call 54;(with_reducible refine cmo (CK.out _) ?_);rintro e w1 ⟨rfl,hb1⟩;have HB1:=mh (qZ mle HA.out hb1);have C0:=qJ hb1 0;have C1:=qJ hb1 1;have C2:=qJ hb1 2;have S1:=mh (show w.heap.size<w1.heap.size from nll (by simp) hb1.size);clear hb1)
  go_quiet ((go_at_call 151;exact Calls.quiet_of_same (Calls.turn (DY.out _))))
  go_wp2
  go_ret2
  exact⟨rfl,qH HB1.out HB1.size (qQ _ _)⟩
 ·have hs:=As.share_bd (a:=qU) (p:=1000 - X) a0 (by omega) (by omega)
  have hp:uG qU (1000 - X) 1000=(qU*(1000 - X) / 1000,0):=by
   unfold uG;rw[if_pos (by omega),if_neg (by omega)]
  have PA:=mh (fun (W:World)=>(qMA qU (1000 - X) 1000 W).mono (R' := fun e w' => e = .returned (.tuple #[I O (uG qU (1000 - X) 1000).1,I O (uG qU (1000 - X) 1000).2])∧Below W.heap.size W w') (fun e w' h=>⟨h.1,by obtain⟨n,rfl⟩:=h.2;exact qQ _ _⟩));rw[hp,show qU*(1000 - X) / 1000=V from by rw[EV.out,show max 0 (1000 - X)=1000 - X by omega]]at PA;clear EV hp hs
  go_enter Tryz.func104,Tryz.ntmps104
  go_wp2_with (go_at_call 54;(with_reducible refine cmo (CK.out _) ?_);rintro e w1 ⟨rfl,hb1⟩;have HB1:=mh (qZ mle HA.out hb1);have C0:=qJ hb1 0;have C1:=qJ hb1 1;have C2:=qJ hb1 2;have S1:=mh (show w.heap.size<w1.heap.size from nll (by simp) hb1.size);clear hb1)
  go_quiet ((go_at_call 151;exact Calls.quiet_of_same (Calls.turn (DY.out _))))
  go_wp2_with (go_at_call 152;(with_reducible refine cmo (PA.out _) ?_);rintro e w3 ⟨rfl,hb3⟩;have HB3:=mh (show Below w.heap.size w w3 from qZ mle (qH HB1.out HB1.size (qQ _ _)) hb3);clear hb3)
  go_ret2
  exact⟨rfl,HB3.out⟩
theorem kL (p:Option Addr)(D:List (Int × Int))(cap:Nat)(w:World)(h:jF w p D) :
  Calls Tryz.prog 53 #[.slice p D.length cap] w fun e w' => e = .returned (I O (Re.chk D))∧∃n,w' = w.drewN n:=by
 have hn:=h.len
 by_cases h6:6<D.length∨D.length<1
 ·have hc:Re.chk D=66:=Re.chk_not fun hR=>by have:=hR.len;have:=hR.len1;omega
  rw[hc];clear h hc
  rcases h6 with h6|h6
  ·go_enter Tryz.func53,Tryz.ntmps53
   go_wp2
   go_ret
   exact⟨rfl,0,rfl⟩
  ·have hz:¬(6:Int)<(D.length:Int):=by omega
   go_enter Tryz.func53,Tryz.ntmps53
   go_wp2
   go_ret
   exact⟨rfl,0,rfl⟩
 ·have h1:1≤D.length:=by omega
  have h66:D.length≤6:=by omega
  have H:=mh h;clear h h6;have hwl:IntKind.i64.wrap ((D.length:Int) - 1)=(D.length:Int) - 1:=by rw[IntKind.wrap_i64];omega
  go_enter Tryz.func53,Tryz.ntmps53
  go_wp2
  go_loopw [3] (fun i wr=>∃k n:Nat,k≤D.length∧i=I O k∧(∀j,j<k→Re.okAt D j=true)∧wr=w.drewN n) (fun i _=>D.length - (intOf i).toNat)
  case atStart=>exact⟨0,0,Nat.zero_le _,rfl,fun j hj=>absurd hj (Nat.not_lt_zero j),rfl⟩
  case round =>
   obtain⟨k,n,hk,rfl,hok,hb⟩:=hrel;have HOK:=mh hok;have HW:=mh hb;have hcells:∀a,wr.cell? a=w.cell? a:=fun a=>by rw[hb];rfl
   have HCE:=mh hcells;clear hb hcells
   by_cases hlt:k<D.length
   ·obtain⟨b,off,x,y,rfl,hbl,hx0,hy0,hxy⟩:=H.get hlt
    have hx1:=(HCE.out _).trans hx0;have hy1:=(HCE.out _).trans hy0;have hk0:(0:Int)≤(k:Int):=inn _;have hk1:(k:Int)<(D.length:Int):=by omega
    have next:Re.okAt D k=true→∀j,j<k+1→Re.okAt D j=true:=fun h j hj=>by
     by_cases e:j=k
     ·rw[e];exact h
     ·exact HOK.out j (by omega)
    have NEXT:=mh next;clear hok hx0 hy0 next
    rcases Nat.eq_zero_or_pos k with rfl|hpos
    ·simp only[Nat.zero_mul,Nat.add_zero]at hx1 hy1
     have ST:=mh (stOk (lx:=0) (ly:=0) hxy.out (fun h=>absurd rfl h))
     rcases (show(x<0)∨(¬(x<0)∧100000<x)∨(¬(x<0)∧¬(100000<x)∧y < -1)∨(¬(x<0)∧¬(100000<x)∧¬(y < -1)∧10<y)∨(¬(x<0)∧¬(100000<x)∧¬(y < -1)∧¬(10<y)∧y = -1∧¬((0:Int)=(D.length:Int) - 1))∨(¬(x<0)∧¬(100000<x)∧¬(y < -1)∧¬(10<y)∧y = -1∧(0:Int)=(D.length:Int) - 1)∨(¬(x<0)∧¬(100000<x)∧¬(y < -1)∧¬(10<y)∧¬(y = -1)) by omega) with h0|⟨h0,h1⟩|⟨h0,h1,h2⟩|⟨h0,h1,h2,h3⟩|⟨h0,h1,h2,h3,h4,h5⟩|⟨h0,h1,h2,h3,h4,h5⟩|⟨h0,h1,h2,h3,h4⟩
     ·have hB:=mh (jW hlt fun h=>absurd (ST.1 h) (by omega))
      have f0:decide (x<0)=true:=dqt h0
      go_wp2
      go_ret
      exact⟨by rw[hB.out];rfl,_,by first|exact HW.out|(rw[HW.out];exact qE _ _ _)⟩
     ·have hB:=mh (jW hlt fun h=>absurd (ST.1 h) (by omega))
      have f0:decide (x<0)=false:=dqf h0;have f1:decide (100000<x)=true:=dqt h1
      go_wp2
      go_ret
      exact⟨by rw[hB.out];rfl,_,by first|exact HW.out|(rw[HW.out];exact qE _ _ _)⟩
     ·have hB:=mh (jW hlt fun h=>absurd (ST.1 h) (by omega))
      have f0:decide (x<0)=false:=dqf h0;have f1:decide (100000<x)=false:=dqf h1;have f2:decide (y < -1)=true:=dqt h2
      go_wp2
      go_ret
      exact⟨by rw[hB.out];rfl,_,by first|exact HW.out|(rw[HW.out];exact qE _ _ _)⟩
     ·have hB:=mh (jW hlt fun h=>absurd (ST.1 h) (by omega))
      have f0:decide (x<0)=false:=dqf h0;have f1:decide (100000<x)=false:=dqf h1;have f2:decide (y < -1)=false:=dqf h2;have f3:decide (10<y)=true:=dqt h3
      go_wp2
      go_ret
      exact⟨by rw[hB.out];rfl,_,by first|exact HW.out|(rw[HW.out];exact qE _ _ _)⟩
     ·have hB:=mh (jW hlt fun h=>absurd (ST.1 h) (by omega))
      have f0:decide (x<0)=false:=dqf h0;have f1:decide (100000<x)=false:=dqf h1;have f2:decide (y < -1)=false:=dqf h2;have f3:decide (10<y)=false:=dqf h3;have f4:(y == -1)=true:=beq_iff_eq.2 h4;have g4:(y != -1)=false:=by show(!(y == -1))=_;rw[f4];rfl
      have f5:((0:Int)==(D.length:Int) - 1)=false:=beq_eq_false_iff_ne.2 h5;clear h4 h5
      go_wp2
      go_ret
      exact⟨by rw[hB.out];rfl,_,by first|exact HW.out|(rw[HW.out];exact qE _ _ _)⟩
     ·have hG:=NEXT.out (ST.2 (by omega))
      have HG:=mh hG;clear hG;have f0:decide (x<0)=false:=dqf h0;have f1:decide (100000<x)=false:=dqf h1;have f2:decide (y < -1)=false:=dqf h2;have f3:decide (10<y)=false:=dqf h3;have f4:(y == -1)=true:=beq_iff_eq.2 h4;have g4:(y != -1)=false:=by show(!(y == -1))=_;rw[f4];rfl
      have f5:((0:Int)==(D.length:Int) - 1)=true:=beq_iff_eq.2 h5;clear h4 h5
      go_wp2_with fail
      go_quiet (fail)
      go_wp2
      go_roundw
      case rel=>exact⟨0+1,_,by omega,by go_num,HG.out,by first|exact HW.out|(rw[HW.out];exact qE _ _ _)⟩
      case measure=>simp[intOf];omega
     ·have hG:=NEXT.out (ST.2 (by omega))
      have HG:=mh hG;clear hG;have f0:decide (x<0)=false:=dqf h0;have f1:decide (100000<x)=false:=dqf h1;have f2:decide (y < -1)=false:=dqf h2;have f3:decide (10<y)=false:=dqf h3;have f4:(y == -1)=false:=beq_eq_false_iff_ne.2 h4;have g4:(y != -1)=true:=by show(!(y == -1))=_;rw[f4];rfl
      clear h4
      go_wp2_with fail
      go_quiet (fail)
      go_wp2
      go_roundw
      case rel=>exact⟨0+1,_,by omega,by go_num,HG.out,by first|exact HW.out|(rw[HW.out];exact qE _ _ _)⟩
      case measure=>simp[intOf];omega
    ·obtain⟨k', rfl⟩:∃k', k=k' + 1:=⟨k - 1,by omega⟩
     obtain⟨b', off', lx,ly,e, -,hlx0,hly0,hlxy⟩:=H.get (k:=k') (by omega);simp only[Option.some.injEq,Addr.mk.injEq]at e;obtain⟨rfl,rfl, -⟩:=e;have ST:=mh (stOk (lx:=lx) (ly:=ly) hxy.out (fun _=>hlxy.out));have hw2:IntKind.i64.wrap (k' : Int)=(k' : Int):=by rw[IntKind.wrap_i64];omega
     have hlx1:=(HCE.out _).trans hlx0;have hly1:=(HCE.out _).trans hly0;have hw:IntKind.i64.wrap ((k' : Int)+1 - 1)=(k' : Int):=by rw[IntKind.wrap_i64];omega
     have hq0:(0:Int)≤(k' : Int):=inn _;have hq1:(k' : Int)<(D.length:Int):=by omega
     have hk0' : (0:Int)≤(k' : Int)+1:=by omega
     have hk1' : (k' : Int)+1<(D.length:Int):=by omega
     have hk2' : (0:Int)<(k' : Int)+1:=by omega
     clear hlx0 hly0
     rcases (show(x<0)∨(¬(x<0)∧100000<x)∨(¬(x<0)∧¬(100000<x)∧y < -1)∨(¬(x<0)∧¬(100000<x)∧¬(y < -1)∧10<y)∨(¬(x<0)∧¬(100000<x)∧¬(y < -1)∧¬(10<y)∧y = -1∧¬(((k' : Int)+1)=(D.length:Int) - 1))∨(¬(x<0)∧¬(100000<x)∧¬(y < -1)∧¬(10<y)∧y = -1∧((k' : Int)+1)=(D.length:Int) - 1∧x≤lx)∨(¬(x<0)∧¬(100000<x)∧¬(y < -1)∧¬(10<y)∧¬(y = -1)∧x≤lx)∨(¬(x<0)∧¬(100000<x)∧¬(y < -1)∧¬(10<y)∧y = -1∧((k' : Int)+1)=(D.length:Int) - 1∧¬(x≤lx))∨(¬(x<0)∧¬(100000<x)∧¬(y < -1)∧¬(10<y)∧¬(y = -1)∧¬(x≤lx)∧y<ly)∨(¬(x<0)∧¬(100000<x)∧¬(y < -1)∧¬(10<y)∧¬(y = -1)∧¬(x≤lx)∧¬(y<ly)) by omega) with h0|⟨h0,h1⟩|⟨h0,h1,h2⟩|⟨h0,h1,h2,h3⟩|⟨h0,h1,h2,h3,h4,h5⟩|⟨h0,h1,h2,h3,h4,h5,h6⟩|⟨h0,h1,h2,h3,h4,h5⟩|⟨h0,h1,h2,h3,h4,h5,h6⟩|⟨h0,h1,h2,h3,h4,h5,h6⟩|⟨h0,h1,h2,h3,h4,h5,h6⟩
     ·have hB:=mh (jW hlt fun h=>absurd (ST.1 h) (by omega))
      have f0:decide (x<0)=true:=dqt h0
      go_wp2
      go_ret
      exact⟨by rw[hB.out];rfl,_,by first|exact HW.out|(rw[HW.out];exact qE _ _ _)⟩
     ·have hB:=mh (jW hlt fun h=>absurd (ST.1 h) (by omega))
      have f0:decide (x<0)=false:=dqf h0;have f1:decide (100000<x)=true:=dqt h1
      go_wp2
      go_ret
      exact⟨by rw[hB.out];rfl,_,by first|exact HW.out|(rw[HW.out];exact qE _ _ _)⟩
     ·have hB:=mh (jW hlt fun h=>absurd (ST.1 h) (by omega))
      have f0:decide (x<0)=false:=dqf h0;have f1:decide (100000<x)=false:=dqf h1;have f2:decide (y < -1)=true:=dqt h2
      go_wp2
      go_ret
      exact⟨by rw[hB.out];rfl,_,by first|exact HW.out|(rw[HW.out];exact qE _ _ _)⟩
     ·have hB:=mh (jW hlt fun h=>absurd (ST.1 h) (by omega))
      have f0:decide (x<0)=false:=dqf h0;have f1:decide (100000<x)=false:=dqf h1;have f2:decide (y < -1)=false:=dqf h2;have f3:decide (10<y)=true:=dqt h3
      go_wp2
      go_ret
      exact⟨by rw[hB.out];rfl,_,by first|exact HW.out|(rw[HW.out];exact qE _ _ _)⟩
     ·have hB:=mh (jW hlt fun h=>absurd (ST.1 h) (by omega))
      have f0:decide (x<0)=false:=dqf h0;have f1:decide (100000<x)=false:=dqf h1;have f2:decide (y < -1)=false:=dqf h2;have f3:decide (10<y)=false:=dqf h3;have f4:(y == -1)=true:=beq_iff_eq.2 h4;have g4:(y != -1)=false:=by show(!(y == -1))=_;rw[f4];rfl
      have f5:(((k' : Int)+1)==(D.length:Int) - 1)=false:=beq_eq_false_iff_ne.2 h5;clear h4 h5
      go_wp2
      go_ret
      exact⟨by rw[hB.out];rfl,_,by first|exact HW.out|(rw[HW.out];exact qE _ _ _)⟩
     ·have hB:=mh (jW hlt fun h=>absurd (ST.1 h) (by omega))
      have f0:decide (x<0)=false:=dqf h0;have f1:decide (100000<x)=false:=dqf h1;have f2:decide (y < -1)=false:=dqf h2;have f3:decide (10<y)=false:=dqf h3;have f4:(y == -1)=true:=beq_iff_eq.2 h4;have g4:(y != -1)=false:=by show(!(y == -1))=_;rw[f4];rfl
      have f5:(((k' : Int)+1)==(D.length:Int) - 1)=true:=beq_iff_eq.2 h5;have f6:decide (x≤lx)=true:=dqt h6;clear h4 h5
      go_wp2_with fail
      go_quiet (fail)
      go_wp2
      go_ret
      exact⟨by rw[hB.out];rfl,_,by first|exact HW.out|(rw[HW.out];exact qE _ _ _)⟩
     ·have hB:=mh (jW hlt fun h=>absurd (ST.1 h) (by omega))
      have f0:decide (x<0)=false:=dqf h0;have f1:decide (100000<x)=false:=dqf h1;have f2:decide (y < -1)=false:=dqf h2;have f3:decide (10<y)=false:=dqf h3;have f4:(y == -1)=false:=beq_eq_false_iff_ne.2 h4;have g4:(y != -1)=true:=by show(!(y == -1))=_;rw[f4];rfl
      have f5:decide (x≤lx)=true:=dqt h5;clear h4
      go_wp2_with fail
      go_quiet (fail)
      go_wp2
      go_ret
      exact⟨by rw[hB.out];rfl,_,by first|exact HW.out|(rw[HW.out];exact qE _ _ _)⟩
     ·have hG:=NEXT.out (ST.2 (by omega))
      have HG:=mh hG;clear hG;have f0:decide (x<0)=false:=dqf h0;have f1:decide (100000<x)=false:=dqf h1;have f2:decide (y < -1)=false:=dqf h2;have f3:decide (10<y)=false:=dqf h3;have f4:(y == -1)=true:=beq_iff_eq.2 h4;have g4:(y != -1)=false:=by show(!(y == -1))=_;rw[f4];rfl
      have f5:(((k' : Int)+1)==(D.length:Int) - 1)=true:=beq_iff_eq.2 h5;have f6:decide (x≤lx)=false:=dqf h6;clear h4 h5
      go_wp2_with fail
      go_quiet (fail)
      go_wp2
      go_roundw
      case rel=>exact⟨k' + 1+1,_,by omega,by go_num,HG.out,by first|exact HW.out|(rw[HW.out];exact qE _ _ _)⟩
      case measure=>simp[intOf];omega
     ·have hB:=mh (jW hlt fun h=>absurd (ST.1 h) (by omega))
      have f0:decide (x<0)=false:=dqf h0;have f1:decide (100000<x)=false:=dqf h1;have f2:decide (y < -1)=false:=dqf h2;have f3:decide (10<y)=false:=dqf h3;have f4:(y == -1)=false:=beq_eq_false_iff_ne.2 h4;have g4:(y != -1)=true:=by show(!(y == -1))=_;rw[f4];rfl
      have f5:decide (x≤lx)=false:=dqf h5;have f6:decide (y<ly)=true:=dqt h6;clear h4
      go_wp2_with fail
      go_quiet (fail)
      go_wp2
      go_ret
      exact⟨by rw[hB.out];rfl,_,by first|exact HW.out|(rw[HW.out];exact qE _ _ _)⟩
     ·have hG:=NEXT.out (ST.2 (by omega))
      have HG:=mh hG;clear hG;have f0:decide (x<0)=false:=dqf h0;have f1:decide (100000<x)=false:=dqf h1;have f2:decide (y < -1)=false:=dqf h2;have f3:decide (10<y)=false:=dqf h3;have f4:(y == -1)=false:=beq_eq_false_iff_ne.2 h4;have g4:(y != -1)=true:=by show(!(y == -1))=_;rw[f4];rfl
      have f5:decide (x≤lx)=false:=dqf h5;have f6:decide (y<ly)=false:=dqf h6;clear h4
      go_wp2_with fail
      go_quiet (fail)
      go_wp2
      go_roundw
      case rel=>exact⟨k' + 1+1,_,by omega,by go_num,HG.out,by first|exact HW.out|(rw[HW.out];exact qE _ _ _)⟩
      case measure=>simp[intOf];omega
   ·obtain rfl:k=D.length:=by omega
    have hc:=mh (show Re.chk D=0 from Re.chk_zero.2 ⟨h1,by omega,HOK.out⟩);clear hok hlt hk
    go_wp2
    go_ret
    exact⟨by rw[hc.out];rfl,n,HW.out⟩
theorem rM (p:Option Addr)(D:List (Int × Int))(cap:Nat)(d f:Int)(w:World)(h:jF w p D) :
  Calls Tryz.prog 149 #[.slice p D.length cap,I O d,I O f] w fun e w' => e = .returned (I O (Re.stepV D d f))∧∃n,w' = w.drewN n:=by
 have hc:=kL p D cap w h
 rcases cE D d f with⟨c,e⟩|⟨c,h1,e⟩|⟨c,h1,h2,e⟩|⟨c,h1,h2,hR,e⟩
 all_goals rw[c]at hc;rw[e]
 ·have HC:=mh hc
  clear hc h c e
  go_enter Tryz.func149,Tryz.ntmps149
  go_wp2_with (first|(go_at_call 53;refine(HC.out).mono ?_;rintro e w1 ⟨rfl,n1,rfl⟩))
  go_ret
  exact⟨rfl,n1,rfl⟩
 ·have HC:=mh hc
  clear hc h c e
  go_enter Tryz.func149,Tryz.ntmps149
  go_wp2_with (first|(go_at_call 53;refine(HC.out).mono ?_;rintro e w1 ⟨rfl,n1,rfl⟩)|(go_at_call 148;refine(zC _ _).mono ?_;rintro e w' ⟨rfl,rfl⟩))
  go_ret
  exact⟨rfl,n1,rfl⟩
 ·have HC:=mh hc
  clear hc h c e
  go_enter Tryz.func149,Tryz.ntmps149
  go_wp2_with (first|(go_at_call 53;refine(HC.out).mono ?_;rintro e w1 ⟨rfl,n1,rfl⟩)|(go_at_call 148;refine(zC _ _).mono ?_;rintro e w' ⟨rfl,rfl⟩))
  go_ret
  exact⟨rfl,n1,rfl⟩
 ·have HC:=mh hc
  have R:=mh hR;have H:=mh h;have d0:=Re.area_iff.1 h1;have f0:=Re.area_iff.1 h2;have h6:=hR.len;have hwd:IntKind.i64.wrap (d - f)=d - f:=by rw[IntKind.wrap_i64];omega
  clear hc h c e hR
  go_enter Tryz.func149,Tryz.ntmps149
  go_wp2_with (first|(go_at_call 53;refine(HC.out).mono ?_;rintro e w1 ⟨rfl,n1,rfl⟩)|(go_at_call 148;refine(zC _ _).mono ?_;rintro e w' ⟨rfl,rfl⟩))
  go_loop [8,7] (fun i o=>∃k:Nat,k≤D.length∧i=I O k∧o=I O (Re.stepTo D d f k)) (fun i _=>D.length - (intOf i).toNat)
  case atStart=>exact⟨0,Nat.zero_le _,rfl,rfl⟩
  case round =>
   obtain⟨k,hk,rfl,rfl⟩:=hrel
   by_cases hlt:k<D.length
   ·obtain⟨b,off,x,y,rfl,hbl,hx,hy,hxy⟩:=H.get hlt
    obtain⟨X,M,g2,g3,g4,g5⟩:=mG R.out hlt hxy.out d0 f0;have HS:=mh (show Re.stepTo D d f (k+1)=if Re.holds D d f k=true then (k:Int) else Re.stepTo D d f k from rfl)
    by_cases hh:X<M
    ·have hh' : decide (X<M)=true:=dqt hh
     have HE:=mh (show Re.stepTo D d f (k+1)=(k:Int) by rw[HS.out,g5,if_pos hh']);clear g5
     go_wp2
     go_round
     case rel=>exact⟨k+1,by omega,by go_num,by rw[HE.out]⟩
     case measure=>simp[intOf];omega
    ·have hh' : decide (X<M)=false:=dqf hh
     have HE:=mh (show Re.stepTo D d f (k+1)=Re.stepTo D d f k by rw[HS.out,g5,hh', if_neg (by decide)]);clear g5
     go_wp2
     go_round
     case rel=>exact⟨k+1,by omega,by go_num,by rw[HE.out]⟩
     case measure=>simp[intOf];omega
   ·obtain rfl:k=D.length:=by omega
    clear hlt hk
    go_wp2
    go_ret
    exact⟨rfl,n1,rfl⟩
theorem qNA (p:Option Addr)(D:List (Int × Int))(cap:Nat)(d f:Int)(w:World)(h:jF w p D) :
  Calls Tryz.prog 102 #[.slice p D.length cap,I O d,I O f] w fun e w' => e = .returned (.tuple #[I O (Re.paidVal D d f),I O (Re.paidErr D d f)])∧∃n,w' = w.drewN n:=by
 have hc:=kL p D cap w h
 rcases cV D d f with⟨c,e,e2⟩|⟨c,h1,e,e2⟩|⟨c,h1,h2,e,e2⟩|⟨c,h1,h2,hR,e,e2⟩
 all_goals rw[c]at hc;rw[e,e2]
 ·have HC:=mh hc
  clear hc h c e e2
  go_enter Tryz.func102,Tryz.ntmps102
  go_wp2_with (first|(go_at_call 53;refine(HC.out).mono ?_;rintro e w1 ⟨rfl,n1,rfl⟩))
  go_ret2
  exact⟨rfl,n1,rfl⟩
 ·have HC:=mh hc
  clear hc h c e e2
  go_enter Tryz.func102,Tryz.ntmps102
  go_wp2_with (first|(go_at_call 53;refine(HC.out).mono ?_;rintro e w1 ⟨rfl,n1,rfl⟩)|(go_at_call 148;refine(zC _ _).mono ?_;rintro e w' ⟨rfl,rfl⟩))
  go_ret2
  exact⟨rfl,n1,rfl⟩
 ·have HC:=mh hc
  clear hc h c e e2
  go_enter Tryz.func102,Tryz.ntmps102
  go_wp2_with (first|(go_at_call 53;refine(HC.out).mono ?_;rintro e w1 ⟨rfl,n1,rfl⟩)|(go_at_call 148;refine(zC _ _).mono ?_;rintro e w' ⟨rfl,rfl⟩))
  go_ret2
  exact⟨rfl,n1,rfl⟩
 ·have HC:=mh hc
  have H:=mh h;have d0:=Re.area_iff.1 h1;have f0:=Re.area_iff.1 h2;have h6:=hR.len
  by_cases hdf:d≤f
  ·have hp:Re.paid D d f=d:=by unfold Re.paid;rw[if_pos hdf]
   rw[hp];clear hc h c e e2 hp hR
   go_enter Tryz.func102,Tryz.ntmps102
   go_wp2_with (first|(go_at_call 53;refine(HC.out).mono ?_;rintro e w1 ⟨rfl,n1,rfl⟩)|(go_at_call 148;refine(zC _ _).mono ?_;rintro e w' ⟨rfl,rfl⟩))
   go_ret2
   exact⟨rfl,n1,rfl⟩
  have hs:=fun (W:World) (hP:jF W p D)=>rM p D cap d f W hP
  rw[show Re.stepV D d f=Re.step D d f by unfold Re.stepV;rw[if_neg];rw[c,h1,h2];simp]at hs
  rcases Re.step_spec (l:=D) (d:=d) (f:=f) with⟨es, -⟩|⟨n,es,hn, -, -⟩
  ·have hp:Re.paid D d f=f:=by unfold Re.paid;rw[if_neg hdf,if_pos (by omega)]
   rw[hp];rw[es]at hs;have HS:=mh hs;clear hc h c e e2 hp hs es hR
   go_enter Tryz.func102,Tryz.ntmps102
   go_wp2_with (first|(go_at_call 53;refine(HC.out).mono ?_;rintro e w1 ⟨rfl,n1,rfl⟩)|(go_at_call 148;refine(zC _ _).mono ?_;rintro e w' ⟨rfl,rfl⟩)|(go_at_call 149;refine(HS.out _ (H.below (qQ _ n1))).mono ?_;rintro e w2 ⟨rfl,n2,rfl⟩))
   go_ret2
   exact⟨rfl,_,rfl⟩
  ·obtain⟨b,off,x,y,rfl,hbl,hx,hy,hxy⟩:=H.get hn
   have ht:=ti_eq hxy.out;rw[es]at hs;have HS:=mh hs;have hn0:(0:Int)≤(n:Int):=inn _;have hn1:(n:Int)<(D.length:Int):=by omega
   have hnB:decide ((n:Int)<0)=false:=dqf (by omega)
   by_cases hy1:y = -1
   ·have hp:Re.paid D d f=0:=by unfold Re.paid;rw[if_neg hdf,if_neg (by omega),es,Int.toNat_natCast,ht,if_pos hy1]
    rw[hp];have hyB:(y == -1)=true:=beq_iff_eq.2 hy1;clear hc h c e e2 hp hs es hR ht hy1
    go_enter Tryz.func102,Tryz.ntmps102
    go_wp2_with (first|(go_at_call 53;refine(HC.out).mono ?_;rintro e w1 ⟨rfl,n1,rfl⟩)|(go_at_call 148;refine(zC _ _).mono ?_;rintro e w' ⟨rfl,rfl⟩)|(go_at_call 149;refine(HS.out _ (H.below (qQ _ n1))).mono ?_;rintro e w2 ⟨rfl,n2,rfl⟩))
    go_ret2
    exact⟨rfl,_,rfl⟩
   ·have hp:Re.paid D d f=max 0 (f - y*(d - f)):=by unfold Re.paid;rw[if_neg hdf,if_neg (by omega),es,Int.toNat_natCast,ht,if_neg hy1]
    rw[hp];have hyB:(y == -1)=false:=beq_eq_false_iff_ne.2 hy1;have hyb:0≤y∧y≤10:=by
     have:=hR.ti0 hn;rw[ht]at this;omega
    have m0:0≤y*(d - f):=Int.mul_nonneg hyb.1 (by omega);have m1:y*(d - f)≤10*268435456:=Int.mul_le_mul hyb.2 (by omega) (by omega) (by omega);have hwd:IntKind.i64.wrap (d - f)=d - f:=by rw[IntKind.wrap_i64];omega
    obtain⟨M,hM⟩:∃M,y*(d - f)=M:=⟨_,rfl⟩;have hwm:IntKind.i64.wrap (y*(d - f))=M:=by rw[hM]at m0 m1 ⊢;rw[IntKind.wrap_i64];omega
    rw[hM]at m0 m1 ⊢;have hws:IntKind.i64.wrap (f - M)=f - M:=by rw[IntKind.wrap_i64];omega
    clear hc h c e e2 hp hs es hR ht hM
    go_enter Tryz.func102,Tryz.ntmps102
    go_wp2_with (first|(go_at_call 53;refine(HC.out).mono ?_;rintro e w1 ⟨rfl,n1,rfl⟩)|(go_at_call 148;refine(zC _ _).mono ?_;rintro e w' ⟨rfl,rfl⟩)|(go_at_call 149;refine(HS.out _ (H.below (qQ _ n1))).mono ?_;rintro e w2 ⟨rfl,n2,rfl⟩))
    go_ret2
    exact⟨rfl,_,rfl⟩
end Go.Proofs.YtefcalgjnkigjaaGreat
