/- Packed. -/
import Derived.Test.YtefcalgjnkigjaaGreatL13
import Derived.Test.YtefcalgjnkigjaaGreatL14
set_option maxRecDepth 100000
set_option maxHeartbeats 8000000
open Go.Value renaming int → I
open Go.IntKind renaming i64 → O
namespace Go.Proofs.YtefcalgjnkigjaaGreat
open Go.RowKit Sc As
theorem As.declSum_take {K:List LineF}{k:Nat}(hk:k<K.length):jZ (K.take (k+1))=jZ (K.take k)+K[k].decl:=by
 unfold jZ;rw[tsg hk,List.map_append,List.map_singleton,Sh.sum_snoc]
theorem As.declSum_bd {l:YLaw}{K:List LineF}:∀{k:Nat},k≤K.length→(∀j (h:j<K.length),j<k→zJ l K[j]=true)→0≤jZ (K.take k)∧jZ (K.take k)≤268435456*k
 | 0,_,_=>by simp[jZ,Sh.sum]
 | k+1,hk,h=>by
   have ih:=As.declSum_bd (k:=k) (by omega) fun j hj h2=>h j hj (by omega)
   have hl:=dL.1 (h k (by omega) (by omega));have:=hl.d0;have:=hl.d1;rw[declSum_take (by omega)]
   push_cast
   omega
theorem As.farmB_cases (l:YLaw)(f:FarmF):(f.farm<1∧yB l f=false)∨(¬f.farm<1∧60<f.farm∧yB l f=false)∨(¬f.farm<1∧¬60<f.farm∧f.day<0∧yB l f=false) ∨
  (¬f.farm<1∧¬60<f.farm∧¬f.day<0∧36864<f.day∧yB l f=false)∨(¬f.farm<1∧¬60<f.farm∧¬f.day<0∧¬36864<f.day∧20<f.lines.length∧yB l f=false) ∨
  (¬f.farm<1∧¬60<f.farm∧¬f.day<0∧¬36864<f.day∧¬20<f.lines.length∧yB l f=(f.lines.all (zJ l)&&decide (jZ f.lines≤268435456))):=by
 unfold yB
 by_cases h1:f.farm<1
 ·exact .inl ⟨h1,by simp;omega⟩
 by_cases h2:60<f.farm
 ·exact .inr (.inl ⟨h1,h2,by simp;omega⟩)
 by_cases h3:f.day<0
 ·exact .inr (.inr (.inl ⟨h1,h2,h3,by simp;omega⟩))
 by_cases h4:36864<f.day
 ·exact .inr (.inr (.inr (.inl ⟨h1,h2,h3,h4,by simp;omega⟩)))
 by_cases h5:20<f.lines.length
 ·exact .inr (.inr (.inr (.inr (.inl ⟨h1,h2,h3,h4,h5,by simp;omega⟩))))
 ·refine .inr (.inr (.inr (.inr (.inr ⟨h1,h2,h3,h4,h5,?_⟩))))
  rw[dqt (show 1≤f.farm by omega),dqt (show f.farm≤60 by omega),dqt (show 0≤f.day by omega),dqt (show f.day≤36864 by omega),dqt (show f.lines.length≤20 by omega)];simp only[Bool.true_and]
theorem jHA {Q Q2:Nat→Prop}(d:Nat)(r:RY)(l:YLaw)(rf:RF)(f:FarmF)(w:World)(h:YV Q w d r l)(hn:∀s∈l.sch,0≤s.num∧s.num≤15)(hf:FV Q2 w rf f) :
  Calls Tryz.prog 58 #[.agg (yCells r).toArray,.agg (fCells rf).toArray] w (yC (yB l f) w):=by
 have HL:=mh hf.lines;have hlen:=hf.lines.len;have FC:=farmB_cases l f;obtain⟨V,eV⟩:∃V,yB l f=V:=⟨_,rfl⟩;rw[eV]at FC ⊢;clear eV;have g1:=hf.farm;have g2:=hf.day;have g3:=hf.ln;clear hf;obtain⟨fa,da,lp,ln,lc⟩:=rf;obtain⟨fa', da', lines⟩:=f;simp only at g1 g2 g3 HL hlen FC;subst g1 g2 g3;have LN:=mh (fun (W:World) (hW:Below w.heap.size w W) (Q3:Nat→Prop) (rl:RL) (x:LineF) (hx:LV Q3 W rl x)=>jEA d r l rl x W (h.below hW) hn hx);simp only[yCells]at LN;clear h hn;have HA:=mh (qK mle (qK mle (brf w.heap.size w) (.cells #[.slice r.sp r.sn r.sc,.slice r.tp r.tn r.tc,I O r.due,I O r.last,I O r.mille,.slice r.gp r.gn r.gc,I O r.cap,I O r.env,I O r.unit,I O r.width] 29)) (.cells #[I O fa,I O da,.slice lp lines.length lc] 47));simp only[yCells,fCells]
 rcases FC with⟨l1,l2⟩|⟨l1,l2,l3⟩|⟨l1,l2,l3,l4⟩|⟨l1,l2,l3,l4,l5⟩|⟨l1,l2,l3,l4,l5,l6⟩|⟨l1,l2,l3,l4,l5,l6⟩
 ·subst l2
  go_enter Tryz.func58,Tryz.ntmps58
  go_wp2
  go_ret
  exact⟨rfl,HA.out⟩
 ·subst l3
  go_enter Tryz.func58,Tryz.ntmps58
  go_wp2
  go_ret
  exact⟨rfl,HA.out⟩
 ·subst l4
  go_enter Tryz.func58,Tryz.ntmps58
  go_wp2
  go_ret
  exact⟨rfl,HA.out⟩
 ·subst l5
  go_enter Tryz.func58,Tryz.ntmps58
  go_wp2
  go_ret
  exact⟨rfl,HA.out⟩
 ·subst l6
  have l5' : (20:Int)<(lines.length:Int):=by omega
  clear l5
  go_enter Tryz.func58,Tryz.ntmps58
  go_wp2
  go_ret
  exact⟨rfl,HA.out⟩
 have l5' : ¬(20:Int)<(lines.length:Int):=by omega
 have EV:=mh l6;have SZ:=mh (show((w.alloc (.cells #[.slice r.sp r.sn r.sc,.slice r.tp r.tn r.tc,I O r.due,I O r.last,I O r.mille,.slice r.gp r.gn r.gc,I O r.cap,I O r.env,I O r.unit,I O r.width] 29)).alloc (.cells #[I O fa,I O da,.slice lp lines.length lc] 47)).heap.size=w.heap.size+2 by simp);obtain⟨W2,eW2⟩:∃W2,(w.alloc (.cells #[.slice r.sp r.sn r.sc,.slice r.tp r.tn r.tc,I O r.due,I O r.last,I O r.mille,.slice r.gp r.gn r.gc,I O r.cap,I O r.env,I O r.unit,I O r.width] 29)).alloc (.cells #[I O fa,I O da,.slice lp lines.length lc] 47)=W2:=⟨_,rfl⟩;have EW:=mh eW2
 have P:=mh (show vV W2 w.heap.size 0 r from by
  rw[← eW2]
  exact(vV.box w r 29).below (qK mle (brf (w.alloc (.cells #[.slice r.sp r.sn r.sc,.slice r.tp r.tn r.tc,I O r.due,I O r.last,I O r.mille,.slice r.gp r.gn r.gc,I O r.cap,I O r.env,I O r.unit,I O r.width] 29)).heap.size (w.alloc (.cells #[.slice r.sp r.sn r.sc,.slice r.tp r.tn r.tc,I O r.due,I O r.last,I O r.mille,.slice r.gp r.gn r.gc,I O r.cap,I O r.env,I O r.unit,I O r.width] 29))) (.cells #[I O fa,I O da,.slice lp lines.length lc] 47)) (by simp))
 rw[eW2]at SZ HA;clear eW2 l6
 go_enter Tryz.func58,Tryz.ntmps58
 go_wp2
 go_loopw [5,35] (fun a i wr=>∃k:Nat,k≤lines.length∧i=I O k∧a=I O (jZ (lines.take k))∧(∀j (h:j<lines.length),j<k→zJ l lines[j]=true)∧Below W2.heap.size W2 wr) (fun _ i _=>lines.length - (intOf i).toNat)
 case atStart=>exact⟨0,Nat.zero_le _,rfl,rfl,fun j _ hj=>absurd hj (Nat.not_lt_zero j),by rw[← EW.out];exact brf _ _⟩
 case round =>
  obtain⟨wo,rfl⟩:∃wo:World,wo=wr:=⟨_,rfl⟩;obtain⟨k,hk,rfl,rfl,hall,hb⟩:=hrel;have HAL:=mh hall;have HBW:=mh (show Below w.heap.size w wo from qZ mle HA hb);have hk0:(0:Int)≤(k:Int):=inn _;have BD:=declSum_bd hk hall
  by_cases hlt:k<lines.length
  ·have hk1:(k:Int)<(lines.length:Int):=by omega
   obtain⟨b,off,y,rfl,hbl,hC,hv⟩:=(HL.below HBW).at hlt;have ST:=declSum_take hlt;have hyd:=hv.decl;obtain⟨dl,ls,dp,dn,dc,se,ki,ar,bo⟩:=y;obtain⟨c0,c1,c2,c3,c4,c5,c6⟩:=hC;simp only at c0 c1 c2 c3 c4 c5 c6 hyd;have hbx:=(brf wo.heap.size wo).alloc mle (.cells #[I O dl,I O ls,.slice dp dn dc,I O se,I O ki,I O ar,I O bo] 89);obtain⟨q0,q1,q2,q3,q4,q5,q6,q7,q8,q9⟩:=(P.below hb (by rw[SZ.out];omega)).below hbx (nll (show w.heap.size<W2.heap.size by rw[SZ.out];omega) hb.size);simp only[Nat.zero_add]at q1 q2 q3 q4 q5 q6 q7 q8 q9;have HBX:=mh (qK mle HBW (.cells #[I O dl,I O ls,.slice dp dn dc,I O se,I O ki,I O ar,I O bo] 89));have HBX2:=mh (qK mle hb (.cells #[I O dl,I O ls,.slice dp dn dc,I O se,I O ki,I O ar,I O bo] 89));have LC:=mh (LN _ HBX Q2 ⟨dl,ls,dp,dn,dc,se,ki,ar,bo⟩ lines[k] (hv.below hbx));simp only[jS]at LC
   have HX:=mh (fun (h:zJ l lines[k]=false)=>show lines.all (zJ l)=false from by
    rw[← Bool.not_eq_true,List.all_eq_true];intro h2;rw[h2 _ (List.getElem_mem hlt)]at h
    cases h)
   have LO:=mh (fun (h:zJ l lines[k]=true)=>dL.1 h);obtain⟨bt,ebt⟩:∃b,zJ l lines[k]=b:=⟨_,rfl⟩;rw[ebt]at LC HX LO;have EB:=mh ebt;clear hv hall hb hbx ebt
   cases bt
   ·have HV:=mh (HX rfl)
    clear ST BD hyd LO
    go_wp2_with (go_at_call 91;(with_reducible refine cmo LC.out ?_);rintro e w1 ⟨rfl,hb1⟩;have HB1:=mh (qZ mle HBX hb1);clear hb1)
    go_ret
    exact⟨by rw[EV.out,HV.out];rfl,HB1.out⟩
   ·have h0:=(LO rfl).d0
    have h1:=(LO rfl).d1;rw[← hyd]at h0 h1 ST;obtain⟨A,eA⟩:∃A,jZ (lines.take k)=A:=⟨_,rfl⟩;rw[eA]at BD ST ⊢;have hw:IntKind.i64.wrap (A+dl)=A+dl:=by rw[IntKind.wrap_i64];omega
    have STH:=mh ST;clear ST BD hyd LO eA h0 h1
    go_wp2_with (go_at_call 91;(with_reducible refine cmo LC.out ?_);rintro e w1 ⟨rfl,hb1⟩;have HB1:=mh (qZ mle HBX2 hb1);have k0:=qJ hb1 0;clear hb1)
    go_roundw
    case rel=>exact⟨k+1,by omega,by go_num,by rw[STH.out],fun j hj h=>by
     by_cases e:j=k
     ·subst e;exact EB.out
     ·exact HAL j hj (by omega),HB1.out⟩
    case measure=>simp[intOf];omega
  ·obtain rfl:k=lines.length:=by omega
   have HV:=mh (show lines.all (zJ l)=true from by
    rw[List.all_eq_true];intro y hy;obtain⟨j,hj,rfl⟩:=List.mem_iff_getElem.1 hy
    exact hall j hj hj)
   rw[List.take_length]at BD ⊢;obtain⟨A,eA⟩:∃A,jZ lines=A:=⟨_,rfl⟩;rw[eA]at BD EV ⊢;clear hall hb eA hk
   by_cases hs:A≤268435456
   ·go_wp2
    go_ret
    exact⟨by rw[EV.out,HV.out];simp[hs],HBW.out⟩
   ·go_wp2
    go_ret
    exact⟨by rw[EV.out,HV.out];simp[hs],HBW.out⟩
theorem uM (x y:Nat)(hx:x<9223372036854775808)(hy:y<9223372036854775808):bits BinOp.or IntKind.i64 (x:Int) (y:Int)=((x ||| y:Nat):Int):=by
 have h1:bits BinOp.or IntKind.i64 (x:Int) (y:Int)=IntKind.i64.wrap (((BitVec.ofInt 64 (x:Int) ||| BitVec.ofInt 64 (y:Int):BitVec 64).toNat:Nat):Int):=rfl;have e:∀n:Nat,n<9223372036854775808→(BitVec.ofInt 64 (n:Int)).toNat=n:=fun n hn=>by
  rw[BitVec.toNat_ofInt,show(((2 ^ 64:Nat):Int))=18446744073709551616 from by decide];omega
 have h2:x ||| y<9223372036854775808:=Nat.or_lt_two_pow (n:=63) hx hy
 rw[h1,BitVec.toNat_or,e x hx,e y hy,IntKind.wrap_i64];omega
theorem As.allV_nat {L:List Sch}(h:∀s∈L,0≤s.num∧s.num≤15):∃n:Nat,n<65536∧allV L=(n:Int):=by
 have key:∀(L:List Sch) (a:Nat),a<65536→(∀s∈L,0≤s.num∧s.num≤15)→∃n:Nat,n<65536∧L.foldl (fun acc s=>bits BinOp.or IntKind.i64 acc (wrap64 (2 ^ s.num.toNat))) (a:Int)=(n:Int):=by
  intro L
  induction L with
  | nil=>exact fun a ha _=>⟨a,ha,rfl⟩
  | cons s L ih =>
    intro a ha h;have hs:=h s List.mem_cons_self;have hp:(2:Nat) ^ s.num.toNat<65536:=by
     have:(2:Nat) ^ s.num.toNat≤2 ^ 15:=Nat.pow_le_pow_right (by omega) (by omega);omega
    have hw:wrap64 ((2:Int) ^ s.num.toNat)=((2 ^ s.num.toNat:Nat):Int):=by
     have e:((2:Int) ^ s.num.toNat)=((2 ^ s.num.toNat:Nat):Int):=by push_cast;rfl
     rw[e];generalize 2 ^ s.num.toNat=m at *;unfold wrap64;omega
    show ∃n:Nat,n<65536∧L.foldl _ (bits BinOp.or IntKind.i64 (a:Int) (wrap64 (2 ^ s.num.toNat)))=(n:Int)
    rw[hw,uM _ _ (by omega) (by omega)];exact ih _ (Nat.or_lt_two_pow (n:=16) ha hp) fun t ht=>h t (List.mem_cons_of_mem _ ht)
 exact key L 0 (by omega) h
theorem As.sch_neg {v:Int}{n:Nat}(hn:n<65536)(h0:v<0)(h1 : -9223372036854775808≤v):(bits BinOp.andNot IntKind.i64 v (n:Int) != 0)=true:=by
 have h2:bits BinOp.andNot IntKind.i64 v (n:Int)=IntKind.i64.wrap (((BitVec.ofInt 64 v &&& ~~~ BitVec.ofInt 64 (n:Int):BitVec 64).toNat:Nat):Int):=rfl;have t:(BitVec.ofInt 64 v &&& ~~~ BitVec.ofInt 64 (n:Int):BitVec 64).toNat.testBit 63=true:=by
  rw[BitVec.testBit_toNat,BitVec.getLsbD_and,BitVec.getLsbD_not];have a:(BitVec.ofInt 64 v).getLsbD 63=true:=by
   rw[BitVec.getLsbD,BitVec.toNat_ofInt,show(((2 ^ 64:Nat):Int))=18446744073709551616 from by decide];obtain⟨m,hm⟩:∃m:Nat,(v % 18446744073709551616).toNat=9223372036854775808+m∧m<9223372036854775808:=⟨(v % 18446744073709551616).toNat - 9223372036854775808,by omega⟩;rw[hm.1,show(9223372036854775808:Nat)=2 ^ 63 from by decide,Nat.testBit_two_pow_add_eq,Nat.testBit_lt_two_pow hm.2]
   rfl
  have b:(BitVec.ofInt 64 (n:Int)).getLsbD 63=false:=by
   rw[BitVec.getLsbD,BitVec.toNat_ofInt,show(((2 ^ 64:Nat):Int))=18446744073709551616 from by decide,show((n:Int) % 18446744073709551616).toNat=n by omega];exact Nat.testBit_lt_two_pow (by omega)
  rw[a,b];rfl
 have g:(BitVec.ofInt 64 v &&& ~~~ BitVec.ofInt 64 (n:Int):BitVec 64).toNat≥2 ^ 63:=Nat.ge_two_pow_of_testBit t;have l:=(BitVec.ofInt 64 v &&& ~~~ BitVec.ofInt 64 (n:Int):BitVec 64).isLt;rw[h2];generalize (BitVec.ofInt 64 v &&& ~~~ BitVec.ofInt 64 (n:Int):BitVec 64).toNat=m at *;rw[IntKind.wrap_i64,bne_iff_ne];omega
theorem lK (a:Nat)(n:Int):zH (a:Int) n=a.testBit n.toNat:=by
 unfold zH;rw[Nat.testBit_eq_decide_div_mod_eq];have e:((2:Int) ^ n.toNat)=((2 ^ n.toNat:Nat):Int):=by push_cast;rfl
 rw[e];generalize 2 ^ n.toNat=m;have e2:(a:Int) / (m:Int) % 2=((a / m % 2:Nat):Int):=by push_cast;rfl
 rw[e2]
 by_cases h:a / m % 2=1
 ·simp[h]
 ·rw[dqf (by omega),dqf h]
theorem As.allV_bits {L:List Sch}(h:∀s∈L,0≤s.num∧s.num≤15):∃n:Nat,n<65536∧allV L=(n:Int)∧∀j,n.testBit j=true↔∃s∈L,s.num.toNat=j:=by
 have key:∀(L:List Sch) (a:Nat),a<65536→(∀s∈L,0≤s.num∧s.num≤15)→∃n:Nat,n<65536∧L.foldl (fun acc s=>bits BinOp.or IntKind.i64 acc (wrap64 (2 ^ s.num.toNat))) (a:Int)=(n:Int)∧∀j,n.testBit j=true↔a.testBit j=true∨∃s∈L,s.num.toNat=j:=by
  intro L
  induction L with
  | nil=>exact fun a ha _=>⟨a,ha,rfl,fun j=>by simp⟩
  | cons s L ih =>
    intro a ha h;have hs:=h s List.mem_cons_self;have hp:(2:Nat) ^ s.num.toNat<65536:=by
     have:(2:Nat) ^ s.num.toNat≤2 ^ 15:=Nat.pow_le_pow_right (by omega) (by omega);omega
    have hw:wrap64 ((2:Int) ^ s.num.toNat)=((2 ^ s.num.toNat:Nat):Int):=by
     have e:((2:Int) ^ s.num.toNat)=((2 ^ s.num.toNat:Nat):Int):=by push_cast;rfl
     rw[e];generalize 2 ^ s.num.toNat=m at *;unfold wrap64;omega
    have hor:a ||| 2 ^ s.num.toNat<65536:=Nat.or_lt_two_pow (n:=16) ha hp
    obtain⟨n,h1,h2,h3⟩:=ih (a ||| 2 ^ s.num.toNat) hor fun t ht=>h t (List.mem_cons_of_mem _ ht)
    refine⟨n,h1,?_,fun j=>?_⟩
    ·show L.foldl _ (bits BinOp.or IntKind.i64 (a:Int) (wrap64 (2 ^ s.num.toNat)))=(n:Int)
     rw[hw,uM _ _ (by omega) (by omega)];exact h2
    ·rw[h3 j,Nat.testBit_or,Nat.testBit_two_pow,Bool.or_eq_true,decide_eq_true_eq]
     constructor
     ·rintro ((h|h)|⟨s', hs', h⟩)
      ·exact .inl h
      ·exact .inr ⟨s,List.mem_cons_self,h⟩
      ·exact .inr ⟨s', List.mem_cons_of_mem _ hs', h⟩
     ·rintro (hh|⟨s', hs', hh⟩)
      ·exact .inl (.inl hh)
      ·rcases List.mem_cons.1 hs' with rfl|hs'
       ·exact .inl (.inr hh)
       ·exact .inr ⟨s', hs', hh⟩
 obtain⟨n,h1,h2,h3⟩:=key L 0 (by omega) h;refine⟨n,h1,h2,fun j=>(h3 j).trans ⟨fun h=>h.elim (fun h=>by simp at h) id,.inr⟩⟩
theorem dF {x n:Nat}(hx:x<65536)(hn:n<65536)(h:∀j,x.testBit j=true→n.testBit j=true):bits BinOp.andNot IntKind.i64 (x:Int) (n:Int)=0:=by
 have h2:bits BinOp.andNot IntKind.i64 (x:Int) (n:Int)=IntKind.i64.wrap (((BitVec.ofInt 64 (x:Int) &&& ~~~ BitVec.ofInt 64 (n:Int):BitVec 64).toNat:Nat):Int):=rfl;have e:∀(m i:Nat),m<65536→(BitVec.ofInt 64 (m:Int)).getLsbD i=m.testBit i:=fun m i hm=>by
  rw[BitVec.getLsbD,BitVec.toNat_ofInt,show(((2 ^ 64:Nat):Int))=18446744073709551616 from by decide,show((m:Int) % 18446744073709551616).toNat=m by omega]
 have z:(BitVec.ofInt 64 (x:Int) &&& ~~~ BitVec.ofInt 64 (n:Int):BitVec 64)=0#64:=by
  apply BitVec.eq_of_getLsbD_eq
  intro i hi;rw[BitVec.getLsbD_and,BitVec.getLsbD_not,e x i hx,e n i hn]
  cases hb:x.testBit i with
  | false=>simp
  | true=>simp[h i hb]
 rw[h2,z]
 rfl
structure nX (L:List Sch) (decl:Int) (k a:Nat) (D:List Int):Prop where
 lt:a<65536
 len:D.length=k
 sub:∀j,a.testBit j=true→∃i,∃h:i<L.length,i<k∧L[i].num.toNat=j
 on:∀i (_:i<L.length),i<k→a.testBit L[i].num.toNat=true→0≤D.getD i 0∧D.getD i 0≤decl
 off:∀i (_:i<L.length),i<k→a.testBit L[i].num.toNat=false→D.getD i 0=0
theorem nX.nil (L:List Sch)(decl:Int):nX L decl 0 0 []:=⟨by omega,rfl,fun j h=>by simp at h,fun i _ h=>by omega,fun i _ h=>by omega⟩
theorem dX (D:List Int)(x:Int)(i:Nat):(D ++ [x]).getD i 0=if i=D.length then x else D.getD i 0:=by
 rw[List.getD_eq_getElem?_getD,List.getD_eq_getElem?_getD]
 by_cases h:i<D.length
 ·rw[List.getElem?_append_left h,if_neg (by omega)]
 ·by_cases e:i=D.length
  ·subst e;simp
  ·rw[if_neg e,List.getElem?_eq_none (by simp;omega),List.getElem?_eq_none (by omega)]
theorem vTA {L:List Sch}(ha:∀i j (hi:i<L.length) (hj:j<L.length),i<j→L[i].num<L[j].num)(hn:∀s∈L,0≤s.num∧s.num≤15){i k:Nat}(hi:i<L.length)(hk:k<L.length)(h:i<k):L[i].num.toNat≠L[k].num.toNat:=by
 have h1:=ha i k hi hk h;have h2:=(hn _ (List.getElem_mem hi)).1;omega
theorem nX.no {L:List Sch}{decl:Int}{k a:Nat}{D:List Int}(h:nX L decl k a D)(ha:∀i j (hi:i<L.length) (hj:j<L.length),i<j→L[i].num<L[j].num)(hn:∀s∈L,0≤s.num∧s.num≤15)(hk:k<L.length):nX L decl (k+1) a (D ++ [0]):=by
 refine⟨h.lt,by rw[lap,h.len];rfl,fun j hj=>?_,fun i hi hik hb=>?_,fun i hi hik hb=>?_⟩
 ·obtain⟨i,hi,h1,h2⟩:=h.sub j hj
  exact⟨i,hi,by omega,h2⟩
 ·rw[dX,h.len]
  by_cases e:i=k
  ·subst e
   obtain⟨i', hi', h1,h2⟩:=h.sub _ hb;exact absurd h2 (vTA ha hn hi' hi h1)
  ·rw[if_neg e];exact h.on i hi (by omega) hb
 ·rw[dX,h.len]
  by_cases e:i=k
  ·rw[if_pos e]
  ·rw[if_neg e];exact h.off i hi (by omega) hb
theorem nX.yes {L:List Sch}{decl:Int}{k a:Nat}{D:List Int}{u:Int}(h:nX L decl k a D)(ha:∀i j (hi:i<L.length) (hj:j<L.length),i<j→L[i].num<L[j].num)(hn:∀s∈L,0≤s.num∧s.num≤15)(hk:k<L.length)(h0:0≤u)(h1:u≤decl):nX L decl (k+1) (a ||| 2 ^ L[k].num.toNat) (D ++ [u]):=by
 have hp:(2:Nat) ^ L[k].num.toNat<65536:=by
  have h15:=(hn _ (List.getElem_mem hk)).2;have:(2:Nat) ^ L[k].num.toNat≤2 ^ 15:=Nat.pow_le_pow_right (by omega) (by omega);omega
 refine⟨Nat.or_lt_two_pow (n:=16) h.lt hp,by rw[lap,h.len];rfl,fun j hj=>?_,fun i hi hik hb=>?_,fun i hi hik hb=>?_⟩
 ·rw[Nat.testBit_or,Nat.testBit_two_pow,Bool.or_eq_true,decide_eq_true_eq]at hj
  rcases hj with hj|hj
  ·obtain⟨i,hi,h1,h2⟩:=h.sub j hj
   exact⟨i,hi,by omega,h2⟩
  ·exact⟨k,hk,by omega,hj⟩
 ·rw[dX,h.len]
  by_cases e:i=k
  ·rw[if_pos e];exact⟨h0,h1⟩
  ·rw[if_neg e]
   rw[Nat.testBit_or,Nat.testBit_two_pow,Bool.or_eq_true,decide_eq_true_eq]at hb
   rcases hb with hb|hb
   ·exact h.on i hi (by omega) hb
   ·exact absurd hb.symm (vTA ha hn hi hk (by omega))
 ·rw[Nat.testBit_or,Nat.testBit_two_pow,Bool.or_eq_false_iff,decide_eq_false_iff_not]at hb
  rw[dX,h.len]
  by_cases e:i=k
  ·subst e;exact absurd rfl hb.2
  ·rw[if_neg e];exact h.off i hi (by omega) hb.1
structure vDA (decl season kind area border:Int):Prop where
 d0:0≤decl
 d1:decl≤268435456
 s0 : -1≤season
 s1:season≤1
 seen:seenB kind area border=true
theorem nX.line {l:YLaw}{decl season kind area border:Int}{a:Nat}{D:List Int}(hl:YOk l)(h:nX l.sch decl l.sch.length a D)(hs:vDA decl season kind area border):vX l ⟨decl,a,D,season,kind,area,border⟩:=by
 have hok:=wD hl.sch;have hn:∀s∈l.sch,0≤s.num∧s.num≤15:=fun s hs=>hok.num hs
 obtain⟨n,h1,h2,h3⟩:=allV_bits hn;refine⟨?_,h.len,hs.d0,hs.d1,fun k s e hb=>?_,fun k s e hb=>?_⟩
 ·show bits BinOp.andNot IntKind.i64 (a:Int) (allV l.sch)=0
  rw[h2];refine dF h.lt h1 fun j hj=>(h3 j).2 ?_
  obtain⟨i,hi,_,e⟩:=h.sub j hj;exact⟨_,List.getElem_mem hi,e⟩
 ·obtain⟨hk,rfl⟩:=List.getElem?_eq_some_iff.1 e
  have hb:zH (a:Int) l.sch[k].num=true:=hb;rw[lK]at hb;have h4:=h.on k hk hk hb
  show chk28 ⟨decl,D.getD k 0,season,kind,area,border⟩ l.width=0
  have hw:=hl.width;unfold chk28 factB;rw[if_neg,if_neg (by omega)];have h5:=hs.d0;have h6:=hs.d1;have h7:=hs.s0;have h8:=hs.s1;simp only[hs.seen,Bool.and_true,Bool.and_eq_false_iff,decide_eq_false_iff_not];omega
 ·obtain⟨hk,rfl⟩:=List.getElem?_eq_some_iff.1 e
  have hb:zH (a:Int) l.sch[k].num=false:=hb;rw[lK]at hb;exact h.off k hk hk hb
theorem But.step {t:Nat}{a b c:World}(h:But t a b)(hb:Below a.heap.size b c):But t a c :=
 ⟨hb.os.trans h.os,hb.tape.trans h.tape,hb.output.trans h.output,Nat.le_trans h.size hb.size,fun i hi hn=>(hb.block i hi).trans (h.block i hi hn)⟩
theorem qXA (D:List (Int × Int))(k:Nat)(y:Int):(zS D).set (k*2+1) (I O y)=zS (D.set k ((D.getD k (0,0)).1,y)):=by
 induction D generalizing k with
 | nil=>simp[zS]
 | cons d D ih =>
   show(Value.int .i64 d.1::Value.int .i64 d.2::zS D).set (k*2+1) (I O y)=_
   match k with
   | 0=>rfl
   | k+1 =>
     rw[show(k+1)*2+1=(k*2+1)+1+1 by omega,List.set_cons_succ,List.set_cons_succ,ih]
     rfl
theorem qZA (D:List (Int × Int))(k:Nat)(x:Int):(zS D).set (k*2) (I O x)=zS (D.set k (x,(D.getD k (0,0)).2)):=by
 induction D generalizing k with
 | nil=>simp[zS]
 | cons d D ih =>
   show(Value.int .i64 d.1::Value.int .i64 d.2::zS D).set (k*2) (I O x)=_
   match k with
   | 0=>rfl
   | k+1 =>
     rw[show(k+1)*2=(k*2)+1+1 by omega,List.set_cons_succ,List.set_cons_succ,ih]
     rfl
theorem yL.butB {w w' : World}{T:TypeId}{t B:Nat}{v:Value}{D:List (Int × Int)}(h:yL w T B v D)(hB:t<B)(hb:But t w w'):yL w' T B v D:=by
 refine⟨h.1,?_⟩
 rcases h.2 with hn|⟨g,cap,cur,h1,h2,h3,h4⟩
 ·exact .inl hn
 ·exact .inr ⟨g,cap,cur,h1,h2,(hb.block g (Array.getElem?_eq_some_iff.1 h3).1 (by omega)).trans h3,h4⟩
theorem yL.at {w:World}{T:TypeId}{B c:Nat}{p:Option Addr}{D:List (Int × Int)}(h:yL w T B (.slice p D.length c) D){k:Nat}(hk:k<D.length) :
  ∃g,p=some ⟨g,0,none⟩∧B≤g∧g<w.heap.size∧w.cell? ⟨g,k*2,none⟩=some (I O (D.getD k (0,0)).1)∧w.cell? ⟨g,k*2+1,none⟩=some (I O (D.getD k (0,0)).2)∧w.frozen? ⟨g,k*2,none⟩=false∧w.frozen? ⟨g,k*2+1,none⟩=false ∧
    (∀x,yL (w.setCell ⟨g,k*2,none⟩ (I O x)) T B (.slice p D.length c) (D.set k (x,(D.getD k (0,0)).2)))∧∀y,yL (w.setCell ⟨g,k*2+1,none⟩ (I O y)) T B (.slice p D.length c) (D.set k ((D.getD k (0,0)).1,y)):=by
 have hl:=World.ownsRow.lt h
 rcases h.2 with⟨hv,hn⟩|⟨g,cap,cur,hv,hB,hg,hle,hm,hs,ht⟩
 ·omega
 ·simp only[Value.slice.injEq]at hv
  obtain⟨rfl, -,rfl⟩:=hv;have h' : w.ownsRow B T 2 (.slice (some ⟨g,0,none⟩) D.length c) D.length (zS D):=h;have hp:=bZ D k hk;refine⟨g,rfl,hB,(hl g rfl).2,?_,?_,h'.frozenAt _,h'.frozenAt _,fun x=>?_,fun y=>?_⟩
  ·rw[h'.cellAt (k*2) (by omega)];exact hp.1
  ·rw[h'.cellAt (k*2+1) (by omega)];exact hp.2
  ·have:=h'.stored (k*2) (I O x)
   rw[qZA]at this;unfold yL;rw[List.length_set];exact this.1
  ·have:=h'.stored (k*2+1) (I O y)
   rw[qXA]at this;unfold yL;rw[List.length_set];exact this.1
structure Pre (D:List (Int × Int)):Prop where
 len:D.length≤4
 ok:∀i,i<D.length→(0≤Re.ab D i∧Re.ab D i≤100000)∧(i=0∨Re.ab D (i - 1)<Re.ab D i)∧(0≤Re.ti D i∧Re.ti D i≤10)∧(i=0∨Re.ti D (i - 1)≤Re.ti D i)
theorem Pre.nil:Pre []:=⟨by simp,fun i hi=>absurd hi (Nat.not_lt_zero i)⟩
theorem Pre.right {D:List (Int × Int)}(h:Pre D)(h1:1≤D.length):Re.Right D :=
 ⟨h1,by have:=h.len;omega,fun i hi=>Re.okAt_iff.2 ⟨(h.ok i hi).1,(h.ok i hi).2.1,.inr ⟨(h.ok i hi).2.2.1,(h.ok i hi).2.2.2⟩⟩⟩
theorem Pre.snoc {D:List (Int × Int)}{x y:Int}(h:Pre D)(hl:D.length<4)(hx:0≤x∧x≤100000)(hy:0≤y∧y≤10)(hp:D.length≠0→Re.ab D (D.length - 1)<x∧Re.ti D (D.length - 1)≤y):Pre (D ++ [(x,y)]):=by
 have gl:(D ++ [(x,y)]).getD D.length (0,0)=(x,y):=by simp[List.getD_eq_getElem?_getD]
 have gs:∀i,i<D.length→(D ++ [(x,y)]).getD i (0,0)=D.getD i (0,0):=fun i hi=>by simp[List.getD_eq_getElem?_getD,List.getElem?_append_left hi]
 refine⟨by rw[lap];simp;omega,fun i hi=>?_⟩
 rw[lap,List.length_singleton]at hi;unfold Re.ab Re.ti at *
 by_cases e:i=D.length
 ·subst e
  rw[gl]
  by_cases hz:D.length=0
  ·exact⟨hx,.inl hz,hy,.inl hz⟩
  ·rw[gs _ (by omega)]
   exact⟨hx,.inr (hp hz).1,hy,.inr (hp hz).2⟩
 ·have hk:=h.ok i (by omega)
  unfold Re.ab Re.ti at hk;rw[gs i (by omega),gs (i - 1) (by omega)];exact hk
theorem Pre.last {D:List (Int × Int)}(h:Pre D)(h1:1≤D.length):Re.Right (D.set (D.length - 1) ((D.getD (D.length - 1) (0,0)).1, -1)):=by
 have gs:∀i,i<D.length→(D.set (D.length - 1) ((D.getD (D.length - 1) (0,0)).1, -1)).getD i (0,0)=if i=D.length - 1 then ((D.getD (D.length - 1) (0,0)).1, -1) else D.getD i (0,0):=fun i hi=>by
  rw[List.getD_eq_getElem?_getD,List.getElem?_set]
  by_cases e:D.length - 1=i
  ·rw[if_pos e,if_pos (by omega),if_pos e.symm];rfl
  ·rw[if_neg e,if_neg (fun h=>e h.symm),← List.getD_eq_getElem?_getD]
 refine⟨by rw[List.length_set];exact h1,by rw[List.length_set];have:=h.len;omega,fun i hi=>?_⟩
 rw[List.length_set]at hi;have hk:=h.ok i hi;rw[Re.okAt_iff,List.length_set];unfold Re.ab Re.ti at *;rw[gs i hi,gs (i - 1) (by omega)]
 by_cases e:i=D.length - 1
 ·rw[if_pos e]
  subst e
  by_cases hz:D.length - 1=0
  ·exact⟨hk.1,.inl hz,.inl ⟨rfl,by omega⟩⟩
  ·rw[if_neg (by omega)]
   refine⟨hk.1,?_,.inl ⟨rfl,by omega⟩⟩
   exact hk.2.1
 ·rw[if_neg e]
  by_cases hz:i=0
  ·exact⟨hk.1,.inl hz,.inr ⟨hk.2.2.1,.inl hz⟩⟩
  ·rw[if_neg (by omega)]
   exact⟨hk.1,hk.2.1,.inr ⟨hk.2.2.1,hk.2.2.2⟩⟩
theorem zKA (t:Nat)(l:List Int)(k:Nat)(w:World)(h:qV w t l k) :
  Calls Tryz.prog 44 #[.pointer (some ⟨t,0,none⟩),I O 2] w fun e w' => e = .returned (.bool (qN l k 2==1))∧qV w' t l (qM l k)∧But t w w' :=by
 have HN:=mh (qF t l k 2 w h (by omega));clear h
 go_enter Tryz.func44,Tryz.ntmps44
 go_wp2_with (first|(go_at_call 43;refine(HN).mono ?_;rintro e w1 ⟨rfl,ht,hb⟩))
 go_ret
 exact⟨rfl,ht,hb⟩
def vPA (w:World) (t:Nat) (l:List Int) (e:Ending) (w' : World):Prop :=
 ∃p cap D q,e = .returned (.slice p D.length cap)∧yL w' 83 w.heap.size (.slice p D.length cap) D∧Re.Right D∧qV w' t l q∧But t w w'
theorem kRA:(Tryz.prog.info? 83).map (fun i=>(i.zero,i.size,i.bytes))=some (some (.agg #[I O 0,I O 0]),2,16):=by kernel_rfl
structure vCA (w wr:World) (t:Nat) (l:List Int) (k:Nat) (v:Value) (D:List (Int × Int)) (x y:Int) (q:Nat):Prop where
 len:D.length=k
 pre:Pre D
 x0:0≤x∧x≤300*((k:Int)+1)
 y0:0≤y∧y≤2*((k:Int)+1)
 last:k≠0→Re.ab D (k - 1)<x∧Re.ti D (k - 1)≤y
 own:yL wr 83 w.heap.size v D
 tape:qV wr t l q
 but:But t w wr
theorem wU (t:Nat)(l:List Int)(a:Nat)(w:World)(h:qV w t l a) :
  Calls Tryz.prog 40 #[.pointer (some ⟨t,0,none⟩)] w (vPA w t l):=by
 obtain⟨gx,ex⟩:∃g,qN l a 60=g:=⟨_,rfl⟩;obtain⟨gy,ey⟩:∃g,qN l (qM l a) 3=g:=⟨_,rfl⟩;obtain⟨gn,en⟩:∃g,qN l (qM l (qM l a)) (4 - 1+1)=g:=⟨_,rfl⟩;obtain⟨x1,x2⟩:=qG l a (n:=60) (by omega);obtain⟨y1,y2⟩:=qG l (qM l a) (n:=3) (by omega);obtain⟨n1,n2⟩:=qG l (qM l (qM l a)) (n:=4 - 1+1) (by omega);rw[ex]at x1 x2;rw[ey]at y1 y2;rw[en]at n1 n2;obtain⟨M,rfl⟩:∃M:Nat,gn=(M:Int):=Int.eq_ofNat_of_zero_le n1;obtain⟨N,hN⟩:∃N:Nat,(N:Int)=1+(M:Int):=⟨1+M,by omega⟩;have T1:=mh (ex▸qF t l a 60 w h (by omega));have T2:=mh (fun (W:World) (h:qV W t l (qM l a))=>ey▸qF t l _ 3 W h (by omega));have T3:=mh (fun (W:World) (h:qV W t l (qM l (qM l a)))=>hN▸(en▸zU t l _ 1 4 W h (by omega) (by omega) (by omega)));have HN:=mh (fun (W:World) (q:Nat) (h:qV W t l q)=>qF t l q 3 W h (by omega));have HR:=mh (fun (W:World) (q:Nat) (h:qV W t l q)=>zU t l q 1 300 W h (by omega) (by omega) (by omega));have HO:=mh (fun (W:World) (q:Nat) (h:qV W t l q)=>zKA t l q W h);obtain⟨i0,hi,hz0,hz1,hz2⟩:=info_parts kRA;have HI:=mh (And.intro hi (And.intro hz0 (And.intro hz1 hz2)));have hlt:=h.lt;have hN1:1≤N:=by omega
 have hN4:N≤4:=by omega
 clear h hi hz0 hz1 hz2 ex ey en n1 n2 hN
 go_enter Tryz.func40,Tryz.ntmps40
 go_wp2_with (first|(go_at_call 43;first|(with_reducible refine cmo T1.out ?_;rintro e w1 ⟨rfl,ht1,hb1⟩)|(with_reducible refine cmo (T2.out _ ht1) ?_;rintro e w2 ⟨rfl,ht2,hb2⟩))|(go_at_call 45;refine(T3 _ ht2).mono ?_;rintro e w3 ⟨rfl,ht3,hb3⟩))
 have HST:=mh (show vCA w w3 t l 0 (.slice none 0 0) [] gx gy _ from⟨rfl,Pre.nil,by omega,by omega,fun h=>absurd rfl h,yL.nil _ _ _,ht3,(hb1.trans hb2).trans hb3⟩);clear ht1 ht2 ht3 hb1 hb2 hb3 T1 T2 T3
 go_loopw [3,4,5,6] (fun v a m c wr=>∃(k:Nat) (D:List (Int × Int)) (x y:Int) (q:Nat),k≤N∧c=I O ((N:Int) - k)∧a=I O x∧m=I O y∧vCA w wr t l k v D x y q) (fun _ _ _ c _=>(intOf c).toNat)
 case atStart=>exact⟨0, [],gx,gy,_,Nat.zero_le _,by simp,rfl,rfl,HST.out⟩
 case round =>
  clear HST;obtain⟨k,D,x,y,q,hk,rfl,rfl,rfl,hD⟩:=hrel;have H:=mh hD;have x0:=hD.x0;have y0:=hD.y0;have hsz:=hD.but.size;have hDl:=hD.len;clear hD
  by_cases hkN:k<N
  ·obtain⟨g,eg⟩:∃g,qN l q (300 - 1+1)=g:=⟨_,rfl⟩
   obtain⟨g', eg'⟩:∃g,qN l (qM l q) 3=g:=⟨_,rfl⟩;obtain⟨g1,g2⟩:=qG l q (n:=300 - 1+1) (by omega);obtain⟨g3,g4⟩:=qG l (qM l q) (n:=3) (by omega);rw[eg]at g1 g2;rw[eg']at g3 g4;have HR1:=mh (fun (W:World) (h:qV W t l q)=>eg▸HR.out W q h);have HN1:=mh (fun (W:World) (h:qV W t l (qM l q))=>eg' ▸ HN.out W _ h);clear eg eg' HR HN HO
   go_wp2_with (first|(at_builtin;(refine yL.append HI.1 HI.2.1 HI.2.2.1 HI.2.2.2 Tryz.underlying24 rfl (.tmp 17) (.tmp 21) rfl w.heap.size _ _ x y H.own rfl rfl (by omega) (by omega) ?_);intro v1 w4 hown4 hb4)|(go_at_call 45;refine(HR1 _ (H.tape.belowB hb4 (by omega))).mono ?_;rintro e w5 ⟨rfl,ht5,hb5⟩)|(go_at_call 43;refine(HN1 _ ht5).mono ?_;rintro e w6 ⟨rfl,ht6,hb6⟩))
   have hD2:vCA w w6 t l (k+1) v1 (D ++ [(x,y)]) (x+(1+g)) (y+g') (qM l (qM l q)):=by
    refine⟨by rw[lap];simp;omega,H.pre.snoc (by omega) (by omega) (by omega) (fun hz=>by rw[hDl]at hz ⊢;exact H.last hz),by omega,by omega,fun _=>?_,(hown4.butB hlt hb5).butB hlt hb6,ht6,(H.but.step hb4).trans (hb5.trans hb6)⟩
    have gl:(D ++ [(x,y)]).getD (k+1 - 1) (0,0)=(x,y):=by rw[Nat.add_sub_cancel,← hDl];simp[List.getD_eq_getElem?_getD]
    unfold Re.ab Re.ti;rw[gl];simp only;omega
   have HD2:=mh hD2;clear hD2 hown4 ht5 ht6 hb4 hb5 hb6
   go_roundw
   case rel=>exact⟨k+1,_,_,_,_,by omega,by congr 1;omega,rfl,rfl,HD2.out⟩
   case measure=>simp[intOf];omega
  ·obtain rfl:k=N:=by omega
   obtain⟨p,c,rfl,hP⟩:=H.own.pairs;obtain⟨g,eg⟩:∃g,qN l q 2=g:=⟨_,rfl⟩;have HO1:=mh (eg▸HO.out wr q H.tape);have hw:IntKind.i64.wrap ((D.length:Int) - 1)=(D.length:Int) - 1:=by rw[IntKind.wrap_i64];omega
   have hl0:(0:Int)≤(D.length:Int) - 1:=by omega
   have hl1:(D.length:Int) - 1<(D.length:Int):=by omega
   have hD1:1≤D.length:=by omega
   clear hP hk eg HO HN HR hDl
   by_cases hg:g=1
   ·have hB:(g==1)=true:=beq_iff_eq.2 hg
    clear hg
    go_wp2_with (first|(go_at_call 44;refine HO1.mono ?_;rintro e w5 ⟨rfl,ht5,hb5⟩;obtain⟨gg,hpg,hBg,hgl,cx,cy,fx,fy, -,hset⟩:=(H.own.butB hlt hb5).at (k:=D.length - 1) (by omega);subst hpg;have HS:=mh (hset (-1));clear hset))
    go_ret
    exact⟨_,c,_,qM l q,by rw[List.length_set];rfl,by rw[List.length_set];exact HS.out,H.pre.last hD1,ht5.belowB ((brf w.heap.size _).setCell hBg _) hlt,(H.but.trans hb5).step ((brf w.heap.size _).setCell hBg _)⟩
   ·have hB:(g==1)=false:=beq_eq_false_iff_ne.2 hg
    clear hg
    go_wp2_with (first|(go_at_call 44;refine(HO1).mono ?_;rintro e w5 ⟨rfl,ht5,hb5⟩))
    go_ret
    exact⟨p,c,D,qM l q,rfl,H.own.butB hlt hb5,H.pre.right hD1,ht5,H.but.trans hb5⟩
structure TpB (w wr:World) (t:Nat) (l:List Int) (q:Nat):Prop where
 tape:qV wr t l q
 but:But t w wr
 lt:t<w.heap.size
section
variable {w wr w' : World} {t g i q q' : Nat} {l:List Int} {xs:Array Value} {T:TypeId}
theorem TpB.init (h:qV w t l q):TpB w w t l q:=⟨h,But.refl _ _,h.lt⟩
theorem TpB.next (h:TpB w wr t l q)(ht:qV w' t l q')(hb:But t wr w'):TpB w w' t l q' := ⟨ht,h.but.trans hb,h.lt⟩
theorem TpB.below (h:TpB w wr t l q)(hb:Below wr.heap.size wr w'):TpB w w' t l q:=⟨h.tape.below hb,h.but.nxt hb,h.lt⟩
theorem TpB.belowB (h:TpB w wr t l q)(hb:Below w.heap.size wr w'):TpB w w' t l q:=⟨h.tape.belowB hb h.lt,h.but.stp hb,h.lt⟩
theorem TpB.alloc (h:TpB w wr t l q)(o:Obj):TpB w (wr.alloc o) t l q:=h.below ((brf _ _).alloc mle _)
theorem TpB.drew (h:TpB w wr t l q):TpB w wr.drew t l q:=h.below (brf _ _).drew
theorem TpB.set (h:TpB w wr t l q)(hg:w.heap.size≤g)(u:Value):TpB w (wr.setCell ⟨g,i,none⟩ u) t l q:=h.belowB ((brf _ _).setCell hg u)
theorem TpB.trans (h:TpB w wr t l q)(k:TpB wr w' t l q'):TpB w w' t l q' := ⟨k.tape,h.but.trans k.but,h.lt⟩
def Blk (wr:World) (g:Nat) (xs:Array Value) (T:TypeId):Prop:=wr.heap[g]?=some (.cells xs T)
theorem Blk.lt (h:Blk wr g xs T):g<wr.heap.size:=(Array.getElem?_eq_some_iff.1 h).1
theorem Blk.cell (h:Blk wr g xs T)(i:Nat):wr.cell? ⟨g,i,none⟩=xs[i]?:=by
 unfold Blk at h
 simp[World.cell?,h]
theorem Blk.fr (h:Blk wr g xs T)(i:Nat):wr.frozen? ⟨g,i,none⟩=false:=by
 unfold Blk at h
 simp[World.frozen?,h]
theorem Blk.but (h:Blk wr g xs T)(hb:But t wr w')(hg:g≠t):Blk w' g xs T:=(hb.block g h.lt hg).trans h
theorem Blk.below (h:Blk wr g xs T)(hb:Below wr.heap.size wr w'):Blk w' g xs T:=(hb.block g h.lt).trans h
theorem setK {b i:Nat}{cur:Array Value}{fr:Nat × Nat}(h:wr.heap[b]?=some (.cells cur T fr))(u:Value):(wr.setCell ⟨b,i,none⟩ u).heap[b]?=some (.cells (cur.setIfInBounds i u) T fr):=by
 simp[World.setCell,Array.getElem?_modify,h]
theorem Blk.set (h:Blk wr g xs T)(i:Nat)(u:Value):Blk (wr.setCell ⟨g,i,none⟩ u) g (xs.setIfInBounds i u) T:=setK h u
theorem Blk.far {g2:Nat}(h:Blk wr g xs T)(hg:g≠g2)(u:Value):Blk (wr.setCell ⟨g2,i,none⟩ u) g xs T:=(qB _ hg _ u).trans h
theorem Blk.put6 {z0 z1 z2 z3 z4 z5:Value}(h:Blk wr g #[z0,z1,z2,z3,z4,z5] T)(u0 u1 u2 u3 u4 u5:Value):Blk ((((((wr.setCell ⟨g,0,none⟩ u0).setCell ⟨g,1,none⟩ u1).setCell ⟨g,2,none⟩ u2).setCell ⟨g,3,none⟩ u3).setCell ⟨g,4,none⟩ u4).setCell ⟨g,5,none⟩ u5) g #[u0,u1,u2,u3,u4,u5] T :=
 (((((h.set 0 u0).set 1 u1).set 2 u2).set 3 u3).set 4 u4).set 5 u5
theorem TpB.put6 (h:TpB w wr t l q)(hg:w.heap.size≤g)(u0 u1 u2 u3 u4 u5:Value):TpB w ((((((wr.setCell ⟨g,0,none⟩ u0).setCell ⟨g,1,none⟩ u1).setCell ⟨g,2,none⟩ u2).setCell ⟨g,3,none⟩ u3).setCell ⟨g,4,none⟩ u4).setCell ⟨g,5,none⟩ u5) t l q :=
 (((((h.set hg u0).set hg u1).set hg u2).set hg u3).set hg u4).set hg u5
theorem Blk.new (wr:World)(xs:Array Value)(T:TypeId):Blk (wr.alloc (.cells xs T)) wr.heap.size xs T:=Array.getElem?_push_size
end
/-! ### Late -/
def uHA (w:World) (t:Nat) (l:List Int) (e:Ending) (w' : World):Prop :=
 ∃x y z q,e = .returned (.agg #[I O x,I O y,I O z])∧nP ⟨x,y,z⟩∧x<40∧TpB w w' t l q
theorem wY (t:Nat)(l:List Int)(a:Nat)(w:World)(h:qV w t l a) :
  Calls Tryz.prog 41 #[.pointer (some ⟨t,0,none⟩)] w (uHA w t l):=by
 obtain⟨gx,ex⟩:∃g,qN l a 40=g:=⟨_,rfl⟩;obtain⟨q1,eq1⟩:∃q,qM l a=q:=⟨_,rfl⟩;obtain⟨gy,ey⟩:∃g,qN l q1 40=g:=⟨_,rfl⟩;obtain⟨q2,eq2⟩:∃q,qM l q1=q:=⟨_,rfl⟩;obtain⟨gz,ez⟩:∃g,qN l q2 60=g:=⟨_,rfl⟩;obtain⟨q3,eq3⟩:∃q,qM l q2=q:=⟨_,rfl⟩;have x1:=qG l a (n:=40) (by omega);have y1:=qG l q1 (n:=40) (by omega);have z1:=qG l q2 (n:=60) (by omega);rw[ex]at x1;rw[ey]at y1;rw[ez]at z1;have T1:=mh (fun (W:World) (h:qV W t l a)=>eq1▸ex▸qF t l a 40 W h (by omega));have T2:=mh (fun (W:World) (h:qV W t l q1)=>eq2▸ey▸qF t l q1 40 W h (by omega));have T3:=mh (fun (W:World) (h:qV W t l q2)=>eq3▸ez▸qF t l q2 60 W h (by omega));have H0:=mh (TpB.init h);obtain⟨g,eg⟩:∃g,w.heap.size=g:=⟨_,rfl⟩;have HG:=mh (show w.heap.size≤g∧t<g by have:=h.lt;omega);have B0:=mh (show Blk (w.alloc (.cells #[I O 0,I O 0,I O 0] 26)) g #[I O 0,I O 0,I O 0] 26 from eg▸Blk.new _ _ _);have P0:=mh (H0.alloc (.cells #[I O 0,I O 0,I O 0] 26));clear h ex ey ez eq1 eq2 eq3
 go_enter Tryz.func41,Tryz.ntmps41
 go_wp2_with fail
 clear eg;generalize w.alloc (.cells #[I O 0,I O 0,I O 0] 26)=w0 at *;(with_reducible refine cmo (T1.out _ P0.out.tape) ?_);rintro e w1 ⟨rfl,ht1,hb1⟩;have P1:=mh (P0.next ht1 hb1);have B1:=mh (B0.but hb1 (by have:=HG.out;omega));clear ht1 hb1
 go_wp2_with fail
 (with_reducible refine cmo (T2.out _ P1.out.tape) ?_);rintro e w2 ⟨rfl,ht2,hb2⟩;have P2:=mh (P1.next ht2 hb2);have B2:=mh (B1.but hb2 (by have:=HG.out;omega));clear ht2 hb2
 go_wp2_with fail
 (with_reducible refine cmo (T3.out _ P2.out.tape) ?_);rintro e w3 ⟨rfl,ht3,hb3⟩;have P3:=mh (P2.next ht3 hb3);have B3:=mh (B2.but hb3 (by have:=HG.out;omega));clear ht3 hb3;have c0:=B3.cell 0;have c1:=B3.cell 1;have c2:=B3.cell 2;have f0:=B3.fr 0;have f1:=B3.fr 1;have f2:=B3.fr 2
 go_wp2
 exact bodyPost_ret (v := .agg #[I O gx,I O (gx+gy),I O gz]) (by simp[results,Tryz.results41,go_sem,c0,c1,c2]) rfl ⟨gx,gx+gy,gz,q3,rfl,⟨by simp only;omega,by simp only;omega,by simp only;omega,by simp only;omega,by simp only;omega⟩,x1.2,((P3.set HG.1 _).set HG.1 _).set HG.1 _⟩
/-! ### Measured -/
def uNA (w:World) (t:Nat) (l:List Int) (e:Ending) (w' : World):Prop :=
 ∃a b q,e = .returned (.agg #[I O a,I O b])∧0≤a∧a≤268435456∧0≤b∧b<40∧TpB w w' t l q
theorem pP (t:Nat)(l:List Int)(a:Nat)(about:Int)(w:World)(h:qV w t l a)(h0:0≤about)(h1:about≤100000) :
  Calls Tryz.prog 119 #[.pointer (some ⟨t,0,none⟩),I O about] w (uNA w t l):=by
 obtain⟨gx,ex⟩:∃g:Int, -12+qN l a (6 - -12+1)=g:=⟨_,rfl⟩;obtain⟨q1,eq1⟩:∃q,qM l a=q:=⟨_,rfl⟩;obtain⟨gy,ey⟩:∃g,qN l q1 40=g:=⟨_,rfl⟩;obtain⟨q2,eq2⟩:∃q,qM l q1=q:=⟨_,rfl⟩;have x1:=qG l a (n:=6 - -12+1) (by omega);have y1:=qG l q1 (n:=40) (by omega);rw[ey]at y1;have x2 : -12≤gx∧gx≤6:=by omega
 clear x1;have T1:=mh (fun (W:World) (h:qV W t l a)=>eq1▸ex▸zU t l a (-12) 6 W h (by omega) (by omega) (by omega));have T2:=mh (fun (W:World) (h:qV W t l q1)=>eq2▸ey▸qF t l q1 40 W h (by omega));have H0:=mh (TpB.init h);obtain⟨g,eg⟩:∃g,w.heap.size=g:=⟨_,rfl⟩;have HG:=mh (show w.heap.size≤g∧t<g by have:=h.lt;omega);have B0:=mh (show Blk (w.alloc (.cells #[I O 0,I O 0] 85)) g #[I O 0,I O 0] 85 from eg▸Blk.new _ _ _);have P0:=mh (H0.alloc (.cells #[I O 0,I O 0] 85));clear h ex ey eq1 eq2
 go_enter Tryz.func119,Tryz.ntmps119
 go_wp2_with fail
 clear eg;generalize w.alloc (.cells #[I O 0,I O 0] 85)=w0 at *;(with_reducible refine cmo (T1.out _ P0.out.tape) ?_);rintro e w1 ⟨rfl,ht1,hb1⟩;have P1:=mh (P0.next ht1 hb1);have B1:=mh (B0.but hb1 (by have:=HG.out;omega));clear ht1 hb1
 go_wp2_with fail
 (with_reducible refine cmo (T2.out _ P1.out.tape) ?_);rintro e w2 ⟨rfl,ht2,hb2⟩;have P2:=mh (P1.next ht2 hb2);have B2:=mh (B1.but hb2 (by have:=HG.out;omega));clear ht2 hb2;have c0:=B2.cell 0;have c1:=B2.cell 1;have f0:=B2.fr 0;have f1:=B2.fr 1
 go_wp2
 exact bodyPost_ret (v := .agg #[I O (max 0 (about+gx)),I O gy]) (by simp[results,Tryz.results119,go_sem,c0,c1]) rfl ⟨max 0 (about+gx),gy,q2,rfl,by omega,by omega,y1.1,y1.2,(P2.set HG.1 _).set HG.1 _⟩
end Go.Proofs.YtefcalgjnkigjaaGreat
