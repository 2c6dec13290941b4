/- Packed. -/
import Derived.Test.YtbcmabolkkfgfaaGreatDoorQ9
import Derived.Test.YtbcmabolkkfgfaaGreatDoorQ14
set_option maxRecDepth 100000
set_option maxHeartbeats 4000000
open Go.Value renaming int → I
open Go.IntKind renaming i64 → O
namespace Go.Proofs.YtbcmabolkkfgfaaGreatDoor
open Go.RowKit Te Sc
def tw (L:List Sch) (i:Nat) (s:Sch) (j:Nat):Bool:=match L[j]? with|some x=>nmIs s.nm x||(decide (j+1=i)&&decide (s.num≤x.num))|none=>false
theorem tw_at {L:List Sch}{i j:Nat}{s:Sch}(hj:j<L.length):tw L i s j=(nmIs s.nm L[j]||(decide (j+1=i)&&decide (s.num≤L[j].num))):=by
 unfold tw;rw[List.getElem?_eq_getElem hj]
theorem twice_tw {L:List Sch}{i:Nat}{s:Sch}(hi:i≤L.length):twice L i s=true↔∃j,j<i∧tw L i s j=true:=by
 have hany:(L.take i).any (fun x=>x.nm.data.toList==s.nm.data.toList)=true↔∃j,∃h:j<L.length,j<i∧nmIs s.nm L[j]=true:=by
  rw[List.any_eq_true]
  constructor
  ·rintro ⟨x,hx,hp⟩
   obtain⟨j,hj,rfl⟩:=List.mem_iff_getElem.1 hx;rw[List.length_take]at hj;refine⟨j,by omega,by omega,?_⟩;rw[List.getElem_take]at hp;exact hp
  ·rintro ⟨j,hj,hji,hp⟩
   exact⟨L[j],List.mem_iff_getElem.2 ⟨j,by rw[List.length_take];omega,List.getElem_take⟩,hp⟩
 unfold twice;rw[Bool.or_eq_true,hany]
 constructor
 ·rintro (h|⟨j,hj,hji,hp⟩)
  ·cases i with
   | zero=>cases h
   | succ k =>
     simp only at h;rw[List.getElem?_eq_getElem (show k<L.length by omega)]at h;simp only at h;exact⟨k,by omega,by rw[tw_at (by omega),h];simp⟩
  ·exact⟨j,hji,by rw[tw_at hj,hp,Bool.true_or]⟩
 ·rintro ⟨j,hj,h⟩
  rw[tw_at (show j<L.length by omega),Bool.or_eq_true]at h
  rcases h with h|h
  ·exact .inr ⟨j,by omega,hj,h⟩
  ·rw[Bool.and_eq_true,decide_eq_true_eq]at h
   obtain⟨h1,h2⟩:=h;subst h1
   left
   simp only;rw[List.getElem?_eq_getElem (show j<L.length by omega)];exact h2
theorem twice_yes {L:List Sch}{i j:Nat}{s:Sch}(hi:i≤L.length)(hj:j<i)(h:tw L i s j=true):twice L i s=true:=(twice_tw hi).2 ⟨j,hj,h⟩
theorem twice_no {L:List Sch}{i:Nat}{s:Sch}(hi:i≤L.length)(h:∀j,j<i→tw L i s j=false):twice L i s=false:=by
 rw[Bool.eq_false_iff];intro h2;obtain⟨j,hj,h3⟩:=(twice_tw hi).1 h2;rw[h j hj]at h3
 cases h3
theorem refcheck17_any {Q:Nat→Prop}(d:Nat)(p:Option Addr)(L:List Sch)(cap:Nat)(w:World)(h:SsAt Q w d p L)(hz:∀s∈L,s.nm.size≤9223372036854775807)(hcap:L.length≤cap)(hct:∀s∈L,count s.cond≤1099511627776) :
  Calls Tryz.prog 10 #[.slice p L.length cap] w (ChkG (chk17 L) w):=by
 have hlen:=h.len;have H:=mh h;have HZ:=mh hz;have HCT:=mh hct;clear h hz hct;obtain⟨cv,ecv⟩:∃v,chk17 L=v:=⟨_,rfl⟩;rw[ecv];have ECV:=mh ecv;clear ecv
 by_cases h16:16<L.length
 ·have HV:=mh (show cv=(0,1) from ECV.out▸chk_long h16)
  go_enter Tryz.func10,Tryz.ntmps10
  go_wp2
  go_ret2
  exact⟨by rw[HV.out];rfl,brf _ _⟩
 go_enter Tryz.func10,Tryz.ntmps10
 go_wp2
 go_loopw [18] (fun i wr=>∃k:Nat,k≤L.length∧i=I O k∧(∀j,j<k→errA L j=0)∧Below w.heap.size w wr) (fun i _=>L.length - (intOf i).toNat)
 case atStart=>exact⟨0,Nat.zero_le _,rfl,fun j hj=>absurd hj (Nat.not_lt_zero j),brf _ _⟩
 case round =>
  obtain⟨wo,rfl⟩:∃wo:World,wo=wr:=⟨_,rfl⟩;obtain⟨k,hk,rfl,ha,hb⟩:=hrel;have HAL:=mh ha;have HB:=mh hb;have hk0:(0:Int)≤(k:Int):=inn _
  by_cases hlt:k<L.length
  ·have hk1:(k:Int)<(L.length:Int):=by omega
   obtain⟨b,off,r,rfl,hbl,hC,hv⟩:=(H.out.below hb).at hlt;have CV:=mh (refone_any d r L[k] _ (hv.below (balloc mle (brf _ _) (.cells (sCells r).toArray 31))) (by rw[hv.nm];exact HZ.out _ (List.getElem_mem hlt)) (HCT.out _ (List.getElem_mem hlt)));have RN:=mh hv.nm;have RU:=mh hv.num;obtain⟨c0,c1,c2,c3,c4,c5,c6,c7,c8,c9⟩:=hC;obtain⟨num,nm,⟨o,tn,tm,tp,tl,tc⟩,bp,bn,bc,least,ex,needs⟩:=r;simp only at c0 c1 c2 c3 c4 c5 c6 c7 c8 c9 RN RU;simp only[sCells]at CV;have HBA:=mh (balloc mle HB.out (.cells #[I O num,.string nm,I O o,I O tn,I O tm,.slice tp tl tc,.slice bp bn bc,I O least,I O ex,.bool needs] 31));obtain⟨v,ev⟩:∃v,one17 L[k]=v:=⟨_,rfl⟩;have EV:=mh ev;rw[ev]at CV;clear ha hb hv ev
   by_cases hv0:v=0
   ·subst hv0
    have E6:=mh (fun (h:twice L k L[k]=true)=>(show cv=((k:Int),6) from by rw[← ECV.out,chk_A h16 hlt HAL.out (by rw[errA_twice hlt EV.out,if_pos h];decide),errA_twice hlt EV.out,if_pos h]));have E0:=mh (fun (h:twice L k L[k]=false)=>(show errA L k=0 from by rw[errA_twice hlt EV.out,if_neg (by rw[h];decide)]));have hkc:(k:Int)≤(cap:Int):=by omega
    go_wp2_with (first|(go_at_call 32;(with_reducible refine cmo CV.out ?_);rintro e w1 ⟨rfl,hb1⟩;have HB1:=mh (bstep mle HBA.out hb1);have HZ1:=mh (show wo.heap.size<w1.heap.size from nll (by simp) hb1.size);have V0:=mh (mcell hb1 0);have V1:=mh (mcell hb1 1);clear hb1))
    have HS1:=mh (show wo.heap.size<w1.heap.size from HZ1.out)
    go_loopw [33] (fun i wr=>∃j:Nat,j≤k∧i=I O j∧(∀m,m<j→tw L k L[k] m=false)∧Below w1.heap.size w1 wr) (fun i _=>k - (intOf i).toNat)
    case atStart=>exact⟨0,Nat.zero_le _,rfl,fun j hj=>absurd hj (Nat.not_lt_zero j),brf _ _⟩
    case round =>
     obtain⟨wi,rfl⟩:∃wi:World,wi=wr:=⟨_,rfl⟩;obtain⟨j,hj,rfl,ht,hbi⟩:=hrel;have HT:=mh ht;have HBI:=mh hbi;have hx0:=(hbi.cell (p:=⟨wo.heap.size,0,none⟩) HS1.out).trans V0.out;have hx1:=(hbi.cell (p:=⟨wo.heap.size,1,none⟩) HS1.out).trans V1.out;have HIS:=mh (nll HS1.out hbi.size)
     by_cases hjk:j<k
     ·have hj0:(0:Int)≤(j:Int):=inn _
      have hj1:(j:Int)<(k:Int):=by omega
      have hj2:(j:Int)<(L.length:Int):=by omega
      obtain⟨b', off', y,ey,hyl,hY,hyv⟩:=(H.out.below (bstep mle HB1.out hbi)).at (show j<L.length by omega)
      cases ey
      have YN:=mh hyv.nm;have YU:=mh hyv.num;obtain⟨y0,y1,y2,y3,y4,y5,y6,y7,y8,y9⟩:=hY;obtain⟨ynum,ynm,⟨yo,ytn,ytm,ytp,ytl,ytc⟩,ybp,ybn,ybc,yleast,yex,yneeds⟩:=y;simp only at y0 y1 y2 y3 y4 y5 y6 y7 y8 y9 YN YU;have HBJ:=mh (balloc mle hbi (.cells #[I O ynum,.string ynm,I O yo,I O ytn,I O ytm,.slice ytp ytl ytc,.slice ybp ybn ybc,I O yleast,I O yex,.bool yneeds] 31));have gx0:(wi.alloc (.cells #[I O ynum,.string ynm,I O yo,I O ytn,I O ytm,.slice ytp ytl ytc,.slice ybp ybn ybc,I O yleast,I O yex,.bool yneeds] 31)).cell? ⟨wo.heap.size,0,none⟩=some (I O num):=(World.cell?_alloc_past _ _ _ HIS.out).trans hx0;have gx1:(wi.alloc (.cells #[I O ynum,.string ynm,I O yo,I O ytn,I O ytm,.slice ytp ytl ytc,.slice ybp ybn ybc,I O yleast,I O yex,.bool yneeds] 31)).cell? ⟨wo.heap.size,1,none⟩=some (.string nm):=(World.cell?_alloc_past _ _ _ HIS.out).trans hx1;have TW:=mh (tw_at (L:=L) (i:=k) (s:=L[k]) (show j<L.length by omega));obtain⟨nb,enb⟩:∃x,(ynm.toList==nm.toList)=x:=⟨_,rfl⟩;have ENB:=mh (show nmIs L[k].nm L[j]=nb from by rw[← enb,bytes_eq,YN.out,RN.out];rfl);have hwi:IntKind.i64.wrap ((k:Int) - 1)=(k:Int) - 1:=by rw[IntKind.wrap_i64];omega
      clear ht hbi hyv
      cases nb
      ·have LST:=mh (fun (z:Bool) (hz:(decide (j+1=k)&&decide (num≤ynum))=z)=>show tw L k L[k] j=z from by rw[TW.out,ENB.out,Bool.false_or,← RU.out,← YU.out];exact hz)
       by_cases hjl:j+1=k
       ·have g1:((j:Int)==(k:Int) - 1)=true:=beq_iff_eq.2 (by omega)
        by_cases hle:num≤ynum
        ·have d1:decide (num≤ynum)=true:=dqt hle
         have HV:=mh (E6.out (twice_yes (by omega) hjk (LST.out true (by rw[dqt hjl,d1];rfl))));clear hle hjl
         go_wp2
         go_ret2
         exact⟨by rw[HV.out];rfl,bstep mle HB1.out HBJ.out⟩
        ·have d1:decide (num≤ynum)=false:=dqf hle
         have HV:=mh (LST.out false (by rw[d1,Bool.and_false]));clear hle hjl
         go_wp2
         go_roundw
         case rel=>exact⟨j+1,by omega,by go_num,fun m hm=>by
          by_cases e:m=j
          ·subst e;exact HV.out
          ·exact HT.out m (by omega),HBJ.out⟩
         case measure=>simp[intOf];omega
       ·have g1:((j:Int)==(k:Int) - 1)=false:=beq_eq_false_iff_ne.2 (by omega)
        have HV:=mh (LST.out false (by rw[dqf hjl,Bool.false_and]));clear hjl
        go_wp2
        go_roundw
        case rel=>exact⟨j+1,by omega,by go_num,fun m hm=>by
         by_cases e:m=j
         ·subst e;exact HV.out
         ·exact HT.out m (by omega),HBJ.out⟩
        case measure=>simp[intOf];omega
      ·have HV:=mh (E6.out (twice_yes (by omega) hjk (by rw[TW.out,ENB.out,Bool.true_or])))
       go_wp2
       go_ret2
       exact⟨by rw[HV.out];rfl,bstep mle HB1.out HBJ.out⟩
     ·obtain rfl:j=k:=by omega
      have HV:=mh (E0.out (twice_no (by omega) HT.out));clear ht hbi
      go_wp2
      go_roundw
      case rel=>exact⟨j+1,by omega,by go_num,fun m hm=>by
       by_cases e:m=j
       ·subst e;exact HV.out
       ·exact HAL.out m (by omega),bstep mle HB1.out HBI.out⟩
      case measure=>simp[intOf];omega
   ·have HV:=mh (show cv=((k:Int),v) from by rw[← ECV.out,chk_A h16 hlt HAL.out (by rw[errA_one hlt (by rw[EV.out];exact hv0),EV.out];exact hv0),errA_one hlt (by rw[EV.out];exact hv0),EV.out])
    go_wp2_with (first|(go_at_call 32;(with_reducible refine cmo CV.out ?_);rintro e w1 ⟨rfl,hb1⟩;have HB1:=mh (bstep mle HBA.out hb1);have HZ1:=mh (show wo.heap.size<w1.heap.size from nll (by simp) hb1.size);have V0:=mh (mcell hb1 0);have V1:=mh (mcell hb1 1);clear hb1))
    go_ret2
    exact⟨by rw[HV.out];rfl,HB1.out⟩
  ·obtain rfl:k=L.length:=by omega
   clear ha hb;have HBO:=HB
   go_wp2
   go_loopw [61] (fun i wr=>∃k:Nat,k≤L.length∧i=I O k∧(∀j,j<k→errB L j=0)∧Below w.heap.size w wr) (fun i _=>L.length - (intOf i).toNat)
   case atStart=>exact⟨0,Nat.zero_le _,rfl,fun j hj=>absurd hj (Nat.not_lt_zero j),HBO.out⟩
   case round =>
    obtain⟨wp,rfl⟩:∃wp:World,wp=wr:=⟨_,rfl⟩;obtain⟨k,hk,rfl,ha,hb⟩:=hrel;have HBL:=mh ha;have HC:=mh hb;have hk0' : (0:Int)≤(k:Int):=inn _
    by_cases hlt:k<L.length
    ·have hk1:(k:Int)<(L.length:Int):=by omega
     obtain⟨b,off,r,rfl,hbl,hCc,hv⟩:=(H.out.below hb).at hlt;have HN:=errA_num hlt (HAL.out k hlt);have RU:=mh hv.num;have RE:=mh hv.ex;obtain⟨c0,c1,c2,c3,c4,c5,c6,c7,c8,c9⟩:=hCc;obtain⟨num,nm,⟨o,tn,tm,tp,tl,tc⟩,bp,bn,bc,least,ex,needs⟩:=r;simp only at c0 c1 c2 c3 c4 c5 c6 c7 c8 c9 RU RE;have HBA:=mh (balloc mle HC.out (.cells #[I O num,.string nm,I O o,I O tn,I O tm,.slice tp tl tc,.slice bp bn bc,I O least,I O ex,.bool needs] 31));have ER:=mh (errB_at hlt);obtain⟨s,es⟩:∃s,L[k]=s:=⟨_,rfl⟩;have h0:0≤num:=by rw[RU.out];exact HN.1
     have h15:num≤15:=by rw[RU.out];exact HN.2
     have RU2:=mh (show num=s.num from es▸RU.out);have RE2:=mh (show ex=s.ex from es▸RE.out);rw[es]at ER;clear ha hb hv HN es RU RE
     go_wp2_with (fail)
     obtain⟨W1,eW1⟩:∃W:World,W=wp.alloc (.cells #[I O num,.string nm,I O o,I O tn,I O tm,.slice tp tl tc,.slice bp bn bc,I O least,I O ex,.bool needs] 31):=⟨_,rfl⟩;have HS1:=mh (show wp.heap.size<W1.heap.size by rw[eW1];simp);have V0:=mh (show W1.cell? ⟨wp.heap.size,0,none⟩=some (I O num) from by rw[eW1];exact cwn _ _ _ 0);have V5:=mh (show W1.cell? ⟨wp.heap.size,8,none⟩=some (I O ex) from by rw[eW1];exact cwn _ _ _ 8);have HB1:=mh (show Below w.heap.size w W1 from by rw[eW1];exact HBA.out);rw[← eW1];clear eW1
     go_loopw [11] (fun i wr=>∃n:Nat,n≤16∧i=I O n∧(List.range n).all (mutN L s)=true∧Below W1.heap.size W1 wr) (fun i _=>16 - (intOf i).toNat)
     case atStart=>exact⟨0,Nat.zero_le _,rfl,rfl,brf _ _⟩
     case round =>
      obtain⟨wi,rfl⟩:∃wi:World,wi=wr:=⟨_,rfl⟩;obtain⟨n,hn,rfl,hm,hbi⟩:=hrel;have HM:=mh hm;have HBI:=mh hbi;have HBW:=mh (bstep mle HB1.out hbi);have hx0:=(hbi.cell (p:=⟨wp.heap.size,0,none⟩) HS1.out).trans V0.out;have hx8:=(hbi.cell (p:=⟨wp.heap.size,8,none⟩) HS1.out).trans V5.out;have HSZ:=mh (nll HS1.out hbi.size);obtain⟨i,ei⟩:∃i:Int,(n:Int)=i:=⟨_,rfl⟩;have EI:=mh ei;have hi0:(0:Int)≤i:=by omega
      rw[ei]
      by_cases hlt2:n<16
      ·have hi1:i<16:=by omega
       have hi2:i≤15:=by omega
       cases eb:bitB ex i
       ·have EB:(bits BinOp.and IntKind.i64 (ex / 2 ^ i.toNat) 1==0)=true:=by rw[bit_zero,eb];rfl
        have HM2:=mh (show(List.range (n+1)).all (mutN L s)=true by rw[all_range_succ,HM.out,mut_zero (by rw[← RE2.out,EI.out];exact eb)];rfl);clear hm hbi eb ei
        go_wp2
        go_roundw
        case rel=>exact⟨n+1,by omega,by rw[← EI.out];go_num,HM2.out,HBI.out⟩
        case measure=>rw[← EI.out];simp[intOf];omega
       ·have EB:(bits BinOp.and IntKind.i64 (ex / 2 ^ i.toNat) 1==0)=false:=by rw[bit_zero,eb];rfl
        have EBH:=mh (show bitB s.ex n=true by rw[← RE2.out,EI.out];exact eb);have CF:=mh (reffind17_any d (some ⟨b,off,none⟩) L cap i wi (H.out.below HBW.out));have FG:=mh (find17_ge L i);obtain⟨f,ef⟩:∃f,find17 L i=f:=⟨_,rfl⟩;rw[ef]at CF FG;have EF:=mh (show find17 L n=f by rw[EI.out];exact ef);have BAD:=mh (fun (h:mutN L s n=false)=>show cv=((k:Int),17) from by rw[← ECV.out,chk_B h16 HAL.out hlt HBL.out (by rw[ER.out,mut_bad hlt2 h];decide)]);clear hm hbi eb ei ef
        rcases Int.lt_or_le f 0 with hf|hf
        ·have HV:=mh (BAD.out (mut_none EBH.out (by rw[EF.out];exact hf)))
         have d1:decide (f<0)=true:=dqt hf;clear hf
         go_wp2_with (first|(go_at_call 15;(with_reducible refine cmo CF.out ?_);rintro e w1 ⟨rfl,hb1⟩;have HB2:=mh (bstep mle HBW.out hb1);clear hb1))
         go_quiet (fail)
         go_wp2
         go_ret2
         exact⟨by rw[HV.out];rfl,HB2.out.trans ((drewN_below _ _).mono HB2.out.size)⟩
        ·have d1:decide (f<0)=false:=by rw[decide_eq_false_iff_not];omega
         obtain⟨j,rfl⟩:=Int.eq_ofNat_of_zero_le hf;have hj:j<L.length:=by have:=FG.out;omega
         have MS:=mh (mut_some EBH.out EF.out hj);obtain⟨b', off', x,ex', hbl2,hC,hv⟩:=(H.out.below HBW.out).at hj
         cases ex'
         have C8:=mh hC.c8;have hxe:=hv.ex;have hj0' : (0:Int)≤(j:Int):=inn _;have hj1' : (j:Int)<(L.length:Int):=by omega
         obtain⟨xe,exe⟩:∃xe,x.ex=xe:=⟨_,rfl⟩;rw[exe]at C8 hxe;have EN:=RU2.out
         cases eb2:bitB xe num
         ·have EB2:(bits BinOp.and IntKind.i64 (xe / 2 ^ num.toNat) 1==0)=true:=by rw[bit_zero,eb2];rfl
          have HV:=mh (BAD.out (by rw[MS.out,← hxe,← EN];exact eb2));clear hf hC hv eb2 hxe exe EN
          go_wp2_with (first|(go_at_call 15;(with_reducible refine cmo CF.out ?_);rintro e w1 ⟨rfl,hb1⟩;have HB2:=mh (bstep mle HBW.out hb1);have HB3:=mh (bstep mle HBI.out hb1);have hj0:=(hb1.cell (p:=⟨wp.heap.size,0,none⟩) HSZ.out).trans hx0;have hx8' := (hb1.cell (p:=⟨b,off+j*10+8,none⟩) hbl2).trans C8.out;clear hb1))
          go_quiet (fail)
          go_wp2
          go_ret2
          exact⟨by rw[HV.out];rfl,HB2.out.trans ((drewN_below _ _).mono HB2.out.size)⟩
         ·have EB2:(bits BinOp.and IntKind.i64 (xe / 2 ^ num.toNat) 1==0)=false:=by rw[bit_zero,eb2];rfl
          have HM2:=mh (show(List.range (n+1)).all (mutN L s)=true by rw[all_range_succ,HM.out,MS.out,← hxe,← EN,eb2];rfl);clear hf hC hv eb2 hxe exe EN
          go_wp2_with (first|(go_at_call 15;(with_reducible refine cmo CF.out ?_);rintro e w1 ⟨rfl,hb1⟩;have HB2:=mh (bstep mle HBW.out hb1);have HB3:=mh (bstep mle HBI.out hb1);have hj0:=(hb1.cell (p:=⟨wp.heap.size,0,none⟩) HSZ.out).trans hx0;have hx8' := (hb1.cell (p:=⟨b,off+j*10+8,none⟩) hbl2).trans C8.out;clear hb1))
          go_quiet (fail)
          go_wp2
          go_roundw
          case rel=>exact⟨n+1,by omega,by rw[← EI.out];go_num,HM2.out,HB3.out.trans ((drewN_below _ _).mono HB3.out.size)⟩
          case measure=>rw[← EI.out];simp[intOf];omega
      ·obtain rfl:n=16:=by omega
       have HV:=mh (show errB L k=0 from by rw[ER.out,if_pos (show mutual17 L s=true from hm)]);have hi1:i=16:=ei.symm;clear hm hbi ei;subst hi1
       go_wp2
       go_roundw
       case rel=>exact⟨k+1,by omega,by go_num,fun j hj=>by
        by_cases e:j=k
        ·subst e;exact HV.out
        ·exact HBL.out j (by omega),HBW.out⟩
       case measure=>simp[intOf];omega
    ·obtain rfl:k=L.length:=by omega
     have HV:=mh (show cv=(-1,0) from ECV.out▸chk_ok h16 HAL.out HBL.out);clear ha hb
     go_wp2
     go_ret2
     exact⟨by rw[HV.out];rfl,HC.out⟩
theorem fst_ne {f:Nat→Int}{n k:Nat}(h:fst f n=some k):k<n∧f k≠0:=by
 unfold fst at h;have h1:=List.mem_of_find?_eq_some h;have h2:=List.find?_some h;exact⟨List.mem_range.1 h1,by simpa using h2⟩
theorem fst_no {f:Nat→Int}{n:Nat}(h:fst f n=none):∀j,j<n→f j=0:=by
 intro j hj;unfold fst at h;rw[List.find?_eq_none]at h
 simpa using h j (List.mem_range.2 hj)
theorem chk_fine {L:List Sch}(h:(chk17 L).2=0):chk17 L=(-1,0)∧L.length≤16∧(∀j,j<L.length→errA L j=0)∧(∀j,j<L.length→errB L j=0):=by
 by_cases h16:16<L.length
 ·rw[chk_long h16]at h;cases h
 cases hA:fst (errA L) L.length with
 | some i =>
   have e:chk17 L=((i:Int),errA L i):=by unfold chk17;rw[if_neg h16,hA]
   rw[e]at h;exact absurd h (fst_ne hA).2
 | none =>
   cases hB:fst (errB L) L.length with
   | some i =>
     have e:chk17 L=((i:Int),17):=by unfold chk17;rw[if_neg h16,hA];simp only;rw[hB]
     rw[e]at h
     cases h
   | none=>exact⟨chk_ok h16 (fst_no hA) (fst_no hB),by omega,fst_no hA,fst_no hB⟩
def confT (v:Option (Int × Int)):Value:=match v with|some c => .tuple #[I O c.1,I O c.2,.bool true]|none => .tuple #[I O 0,I O 0,.bool false]
def ConfG (v:Option (Int × Int)) (w:World) (e:Ending) (w' : World):Prop:=e = .returned (confT v)∧Below w.heap.size w w'
theorem conf_bad {L:List Sch}{set:Int}(h:(chk17 L).2≠0):conf17 L set=none:=by unfold conf17;rw[if_neg h]
theorem conf_ok {L:List Sch}{set:Int}(h:(chk17 L).2=0):conf17 L set=conf1 set L:=by unfold conf17;rw[if_pos h]
theorem conf1_end {L:List Sch}{set:Int}:conf1 set (L.drop L.length)=none:=by rw[List.drop_length];rfl
theorem conf1_next {L:List Sch}{set:Int}{k:Nat}(hk:k<L.length)(h:∀j (hj:j<(L.drop (k+1)).length),confB set L[k] (L.drop (k+1))[j]=false):conf1 set (L.drop k)=conf1 set (L.drop (k+1)):=by
 rw[List.drop_eq_getElem_cons hk]
 show(match (L.drop (k+1)).find? (confB set L[k]) with|some b=>some (L[k].num,b.num)|none=>conf1 set (L.drop (k+1)))=_
 rw[show(L.drop (k+1)).find? (confB set L[k])=none from List.find?_eq_none.2 fun x hx=>by
  obtain⟨j,hj,rfl⟩:=List.mem_iff_getElem.1 hx
  rw[h j hj];decide]
theorem conf1_hit {L:List Sch}{set:Int}{k j:Nat}(hk:k<L.length)(hj:j<(L.drop (k+1)).length)(h:∀m (hm:m<(L.drop (k+1)).length),m<j→confB set L[k] (L.drop (k+1))[m]=false)(h2:confB set L[k] (L.drop (k+1))[j]=true):conf1 set (L.drop k)=some (L[k].num,(L.drop (k+1))[j].num):=by
 rw[List.drop_eq_getElem_cons hk]
 show(match (L.drop (k+1)).find? (confB set L[k]) with|some b=>some (L[k].num,b.num)|none=>conf1 set (L.drop (k+1)))=_
 rw[show(L.drop (k+1)).find? (confB set L[k])=some (L.drop (k+1))[j] from List.find?_eq_some_iff_getElem.2 ⟨h2,j,hj,rfl,fun i hi=>by rw[h i (by omega) hi];rfl⟩]
theorem under_schs:Tryz.prog.underlying 22=some (.slice (Tryz.prog.elem 22)):=by kernel_rfl
theorem cells_sch:Tryz.prog.cellsOf 31=10:=by kernel_rfl
theorem elem_schs:Tryz.prog.elem 22=31:=by kernel_rfl
theorem SsAt.from {Q:Nat→Prop}{w:World}{d b off:Nat}{L:List Sch}(h:SsAt Q w d (some ⟨b,off,none⟩) L){cap:Nat}(hcap:L.length≤cap){m:Nat}(hm:m≤L.length)(i:Int)(hi:i=(m:Int)) :
  ∃q c1,SsAt Q w d q (L.drop m)∧∀W,(Instr.slice 22 (.slice (some ⟨b,off,none⟩) L.length cap) (some (I O i)) none none).run Tryz.prog W = .ok (.slice q (L.drop m).length c1) W:=by
 subst hi;have hrun:∀W,(Instr.slice 22 (.slice (some ⟨b,off,none⟩) L.length cap) (some (I O (m:Int))) none none).run Tryz.prog W = .ok (sliced (some ⟨b,off,none⟩) m L.length cap 10) W:=fun W=>by
  have hs:(sizeOf (Tryz.prog.elem 22)).run Tryz.prog W = .ok 10 W:=by
   obtain⟨i0,_,h1,_⟩:=el_sch.ex;rw[elem_schs,run_sizeOf W h1,cells_sch]
  rw[run_slice_l (P:=Tryz.prog) W 22 (some ⟨b,off,none⟩) L.length cap under_schs .i64 m (by omega) (by omega),hs]
  rfl
 by_cases hc1:cap=m
 ·have hr:L.drop m = []:=List.drop_of_length_le (by omega)
  refine⟨some ⟨b,off,none⟩,cap - m,by rw[hr];exact SsAt.nil _ _ _ _,fun W=>?_⟩
  rw[hrun W];unfold sliced;rw[if_pos hc1,List.length_drop]
 ·obtain⟨⟨R,h1,h2,h3⟩,h4⟩:=h
  refine⟨some ⟨b,off+m*10,none⟩,cap - m,⟨⟨R.drop m,by rw[List.length_drop,List.length_drop,h1],h2.drop m,fun k a b=>?_⟩,fun a e=>?_⟩,fun W=>?_⟩
  ·rw[List.getElem_drop,List.getElem_drop]
   exact h3 _ _ _
  ·cases e
   rcases h4 _ rfl with h|h
   ·left;rw[h];simp
   ·exact .inr h
  ·rw[hrun W]
   unfold sliced;rw[if_neg hc1,List.length_drop];simp only[Option.map_some,Go.WideShapes.add_plain]
theorem conf17_any {Q:Nat→Prop}(d:Nat)(p:Option Addr)(L:List Sch)(cap:Nat)(set:Int)(w:World)(h:SsAt Q w d p L)(hz:∀s∈L,s.nm.size≤9223372036854775807)(hcap:L.length≤cap) :
  Calls Tryz.prog 16 #[.slice p L.length cap,I O set] w (ConfG (conf17 L set) w):=by
 have CC:=mh (check17_any d p L cap w h hz hcap);have hlen:=h.len;have H:=mh h;clear h hz;obtain⟨cv,ecv⟩:∃v,conf17 L set=v:=⟨_,rfl⟩;rw[ecv];have ECV:=mh ecv;clear ecv
 by_cases he:(chk17 L).2=0
 rotate_left
 ·have HV:=mh (show cv=none from by rw[← ECV.out,conf_bad he])
  obtain⟨⟨ci,er⟩,ec⟩:∃c,chk17 L=c:=⟨_,rfl⟩;rw[ec]at he CC;have hne:(er != 0)=true:=by simpa using he
  clear he ec;unfold ChkG at CC
  go_enter Tryz.func16,Tryz.ntmps16
  go_wp2_with (first|(go_at_call 9;(with_reducible refine cmo CC.out ?_);rintro e w1 ⟨rfl,hb1⟩;have HB1:=mh hb1;clear hb1))
  go_ret3
  exact⟨by rw[HV.out];rfl,HB1.out⟩
 obtain⟨ec,hl16,hA, -⟩:=chk_fine he;rw[ec]at CC;have HA:=mh hA;have HC:=mh (show cv=conf1 set (L.drop 0) from by rw[← ECV.out,conf_ok he,List.drop_zero]);clear he ec hA;unfold ChkG at CC
 go_enter Tryz.func16,Tryz.ntmps16
 go_wp2_with (first|(go_at_call 9;(with_reducible refine cmo CC.out ?_);rintro e w1 ⟨rfl,hb1⟩;have HB1:=mh hb1;clear hb1))
 go_loopw [22] (fun i wr=>∃k:Nat,k≤L.length∧i=I O k∧cv=conf1 set (L.drop k)∧Below w.heap.size w wr) (fun i _=>L.length - (intOf i).toNat)
 case atStart=>exact⟨0,Nat.zero_le _,rfl,HC.out,HB1.out⟩
 case round =>
  obtain⟨wo,rfl⟩:∃wo:World,wo=wr:=⟨_,rfl⟩;obtain⟨k,hk,rfl,hcv,hb⟩:=hrel;have HCV:=mh hcv;have HB:=mh hb;have hk0:(0:Int)≤(k:Int):=inn _;clear hcv
  by_cases hlt:k<L.length
  ·have hk1:(k:Int)<(L.length:Int):=by omega
   obtain⟨b,off,r,rfl,hbl,hC,hv⟩:=(H.out.below hb).at hlt;have hnum:=errA_num hlt (HA.out k hlt);have RU:=mh hv.num;have RE:=mh hv.ex;obtain⟨c0,c1,c2,c3,c4,c5,c6,c7,c8,c9⟩:=hC;obtain⟨num,nm,⟨o,tn,tm,tp,tl,tc⟩,bp,bn,bc,least,ex,needs⟩:=r;simp only at c0 c1 c2 c3 c4 c5 c6 c7 c8 c9 RU RE;rw[← RU.out]at hnum;obtain⟨h0,h15⟩:=hnum;obtain⟨q,qc,hq,hrun⟩:=((H.out.below hb).below (balloc mle (brf _ _) (.cells #[I O num,.string nm,I O o,I O tn,I O tm,.slice tp tl tc,.slice bp bn bc,I O least,I O ex,.bool needs] 31))).from hcap (show k+1≤L.length from hlt) ((k:Int)+1) (by omega)
   have HQ:=mh hq;have HBA:=mh (balloc mle hb (.cells #[I O num,.string nm,I O o,I O tn,I O tm,.slice tp tl tc,.slice bp bn bc,I O least,I O ex,.bool needs] 31));obtain⟨D,eD⟩:∃D,L.drop (k+1)=D:=⟨_,rfl⟩;have ED:=mh eD;rw[eD]at HQ hrun;have hDl:=HQ.out.len
   have HN:=mh (fun (h:∀j (hj:j<D.length),confB set L[k] D[j]=false)=>show cv=conf1 set (L.drop (k+1)) from by
    rw[HCV.out];exact conf1_next hlt (by rw[ED.out];exact h))
   have HH:=mh (fun j (hj:j<D.length) (h:∀m (hm:m<D.length),m<j→confB set L[k] D[m]=false) (h2:confB set L[k] D[j]=true)=>show cv=some (num,D[j].num) from by
    rw[HCV.out,RU.out];subst eD;exact conf1_hit hlt hj h h2)
   have HNM:=mh (fun j (hj:j<D.length)=>show 0≤D[j].num∧D[j].num≤15 from by
    subst eD;rw[List.getElem_drop];rw[List.length_drop]at hj
    exact errA_num _ (HA.out (k+1+j) (by omega)))
   clear hb hv hq eD
   go_wp2_with (fail)
   obtain⟨W1,eW1⟩:∃W:World,W=wo.alloc (.cells #[I O num,.string nm,I O o,I O tn,I O tm,.slice tp tl tc,.slice bp bn bc,I O least,I O ex,.bool needs] 31):=⟨_,rfl⟩;have HS1:=mh (show wo.heap.size<W1.heap.size by rw[eW1];simp);have V0:=mh (show W1.cell? ⟨wo.heap.size,0,none⟩=some (I O num) from by rw[eW1];exact cwn _ _ _ 0);have V8:=mh (show W1.cell? ⟨wo.heap.size,8,none⟩=some (I O ex) from by rw[eW1];exact cwn _ _ _ 8);have HB1' := mh (show Below w.heap.size w W1 from by rw[eW1];exact HBA.out);have HQ1:=mh (show SsAt Q W1 d q D from by rw[eW1];exact HQ.out);rw[← eW1];clear eW1 hrun
   go_loopw [32] (fun i wr=>∃j:Nat,j≤D.length∧i=I O j∧(∀m (hm:m<D.length),m<j→confB set L[k] D[m]=false)∧Below W1.heap.size W1 wr) (fun i _=>D.length - (intOf i).toNat)
   case atStart=>exact⟨0,Nat.zero_le _,rfl,fun j hj h=>absurd h (Nat.not_lt_zero j),brf _ _⟩
   case round =>
    obtain⟨wi,rfl⟩:∃wi:World,wi=wr:=⟨_,rfl⟩;obtain⟨j,hj,rfl,hm,hbi⟩:=hrel;have HM:=mh hm;have HBI:=mh hbi;have HBW:=mh (bstep mle HB1'.out hbi);have hx0:=(hbi.cell (p:=⟨wo.heap.size,0,none⟩) HS1.out).trans V0.out;have hx8:=(hbi.cell (p:=⟨wo.heap.size,8,none⟩) HS1.out).trans V8.out;have hlw:=nll HS1.out hbi.size;have hj0:(0:Int)≤(j:Int):=inn _
    by_cases hjk:j<D.length
    ·have hj1:(j:Int)<(D.length:Int):=by omega
     obtain⟨b', off', y,rfl,hyl,hY,hyv⟩:=(HQ1.out.below hbi).at hjk;have hyn:=HNM.out j hjk;have YU:=mh hyv.num;obtain⟨y0,y1,y2,y3,y4,y5,y6,y7,y8,y9⟩:=hY;obtain⟨ynum,ynm,⟨yo,ytn,ytm,ytp,ytl,ytc⟩,ybp,ybn,ybc,yleast,yex,yneeds⟩:=y;simp only at y0 y1 y2 y3 y4 y5 y6 y7 y8 y9 YU;rw[← YU.out]at hyn;obtain⟨g0,g15⟩:=hyn;have HBJ:=mh (balloc mle hbi (.cells #[I O ynum,.string ynm,I O yo,I O ytn,I O ytm,.slice ytp ytl ytc,.slice ybp ybn ybc,I O yleast,I O yex,.bool yneeds] 31));have HBX:=mh (balloc mle HBW.out (.cells #[I O ynum,.string ynm,I O yo,I O ytn,I O ytm,.slice ytp ytl ytc,.slice ybp ybn ybc,I O yleast,I O yex,.bool yneeds] 31));obtain⟨z1,e1⟩:∃z,bitB set num=z:=⟨_,rfl⟩;obtain⟨z2,e2⟩:∃z,bitB set ynum=z:=⟨_,rfl⟩;obtain⟨z3,e3⟩:∃z,bitB ex ynum=z:=⟨_,rfl⟩;have E1:(bits BinOp.and IntKind.i64 (set / 2 ^ num.toNat) 1==1)=z1:=by rw[bit_one,e1]
     have E2:(bits BinOp.and IntKind.i64 (set / 2 ^ ynum.toNat) 1==1)=z2:=by rw[bit_one,e2]
     have E3:(bits BinOp.and IntKind.i64 (ex / 2 ^ ynum.toNat) 1==1)=z3:=by rw[bit_one,e3]
     have CB:=mh (show confB set L[k] D[j]=(z1&&(z2&&z3)) from by unfold confB;rw[← RU.out,← YU.out,← RE.out,e1,e2,e3]);clear hm hbi hyv e1 e2 e3
     have STEP:=mh (fun (h:confB set L[k] D[j]=false)=>show ∀m (hm:m<D.length),m<j+1→confB set L[k] D[m]=false from fun m hm hmj=>by
      by_cases e:m=j
      ·subst e;exact h
      ·exact HM.out m hm (by omega))
     cases z1
     ·have HV:=mh (STEP.out (by rw[CB.out];rfl))
      go_wp2
      go_roundw
      case rel=>exact⟨j+1,by omega,by go_num,HV.out,HBJ.out⟩
      case measure=>simp[intOf];omega
     cases z2
     ·have HV:=mh (STEP.out (by rw[CB.out];rfl))
      go_wp2
      go_roundw
      case rel=>exact⟨j+1,by omega,by go_num,HV.out,HBJ.out⟩
      case measure=>simp[intOf];omega
     cases z3
     ·have HV:=mh (STEP.out (by rw[CB.out];rfl))
      go_wp2
      go_roundw
      case rel=>exact⟨j+1,by omega,by go_num,HV.out,HBJ.out⟩
      case measure=>simp[intOf];omega
     ·have HV:=mh (HH.out j hjk HM.out (by rw[CB.out];rfl))
      rw[← YU.out]at HV
      go_wp2
      obtain⟨W2,eW2⟩:∃W:World,W=wi.alloc (.cells #[I O ynum,.string ynm,I O yo,I O ytn,I O ytm,.slice ytp ytl ytc,.slice ybp ybn ybc,I O yleast,I O yex,.bool yneeds] 31):=⟨_,rfl⟩;have x0:W2.cell? ⟨wo.heap.size,0,none⟩=some (I O num):=by rw[eW2];exact(World.cell?_alloc_past _ _ _ hlw).trans hx0
      have x1:W2.cell? ⟨wi.heap.size,0,none⟩=some (I O ynum):=by rw[eW2];exact cwn _ _ _ 0
      have HB2:=mh (show Below w.heap.size w W2 from by rw[eW2];exact HBX.out);rw[← eW2];clear eW2
      go_quiet (fail)
      go_wp2
      go_ret3
      exact⟨by rw[HV.out];rfl,HB2.out.trans ((drewN_below _ _).mono HB2.out.size)⟩
    ·obtain rfl:j=D.length:=by omega
     have HV:=mh (HN.out fun m hm=>HM.out m hm hm);clear hm hbi
     go_wp2
     go_roundw
     case rel=>exact⟨k+1,by omega,by go_num,HV.out,HBW.out⟩
     case measure=>simp[intOf];omega
  ·obtain rfl:k=L.length:=by omega
   have HV:=mh (show cv=none from by rw[HCV.out,conf1_end]);clear hb
   go_wp2
   go_ret3
   exact⟨by rw[HV.out];rfl,HB.out⟩
theorem refconf17_any {Q:Nat→Prop}(d:Nat)(p:Option Addr)(L:List Sch)(cap:Nat)(set:Int)(w:World)(h:SsAt Q w d p L)(hz:∀s∈L,s.nm.size≤9223372036854775807)(hcap:L.length≤cap)(hct:∀s∈L,count s.cond≤1099511627776) :
  Calls Tryz.prog 17 #[.slice p L.length cap,I O set] w (ConfG (conf17 L set) w):=by
 have CC:=mh (refcheck17_any d p L cap w h hz hcap hct);have hlen:=h.len;have H:=mh h;clear h hz hct;obtain⟨cv,ecv⟩:∃v,conf17 L set=v:=⟨_,rfl⟩;rw[ecv];have ECV:=mh ecv;clear ecv
 by_cases he:(chk17 L).2=0
 rotate_left
 ·have HV:=mh (show cv=none from by rw[← ECV.out,conf_bad he])
  obtain⟨⟨ci,er⟩,ec⟩:∃c,chk17 L=c:=⟨_,rfl⟩;rw[ec]at he CC;have hne:(er != 0)=true:=by simpa using he
  clear he ec;unfold ChkG at CC
  go_enter Tryz.func17,Tryz.ntmps17
  go_wp2_with (first|(go_at_call 10;(with_reducible refine cmo CC.out ?_);rintro e w1 ⟨rfl,hb1⟩;have HB1:=mh hb1;clear hb1))
  go_ret3
  exact⟨by rw[HV.out];rfl,HB1.out⟩
 obtain⟨ec,hl16,hA, -⟩:=chk_fine he;rw[ec]at CC;have HA:=mh hA;have HC:=mh (show cv=conf1 set (L.drop 0) from by rw[← ECV.out,conf_ok he,List.drop_zero]);clear he ec hA;unfold ChkG at CC
 go_enter Tryz.func17,Tryz.ntmps17
 go_wp2_with (first|(go_at_call 10;(with_reducible refine cmo CC.out ?_);rintro e w1 ⟨rfl,hb1⟩;have HB1:=mh hb1;clear hb1))
 go_loopw [22] (fun i wr=>∃k:Nat,k≤L.length∧i=I O k∧cv=conf1 set (L.drop k)∧Below w.heap.size w wr) (fun i _=>L.length - (intOf i).toNat)
 case atStart=>exact⟨0,Nat.zero_le _,rfl,HC.out,HB1.out⟩
 case round =>
  obtain⟨wo,rfl⟩:∃wo:World,wo=wr:=⟨_,rfl⟩;obtain⟨k,hk,rfl,hcv,hb⟩:=hrel;have HCV:=mh hcv;have HB:=mh hb;have hk0:(0:Int)≤(k:Int):=inn _;clear hcv
  by_cases hlt:k<L.length
  ·have hk1:(k:Int)<(L.length:Int):=by omega
   obtain⟨b,off,r,rfl,hbl,hC,hv⟩:=(H.out.below hb).at hlt;have hnum:=errA_num hlt (HA.out k hlt);have RU:=mh hv.num;have RE:=mh hv.ex;obtain⟨c0,c1,c2,c3,c4,c5,c6,c7,c8,c9⟩:=hC;obtain⟨num,nm,⟨o,tn,tm,tp,tl,tc⟩,bp,bn,bc,least,ex,needs⟩:=r;simp only at c0 c1 c2 c3 c4 c5 c6 c7 c8 c9 RU RE;rw[← RU.out]at hnum;obtain⟨h0,h15⟩:=hnum;obtain⟨q,qc,hq,hrun⟩:=((H.out.below hb).below (balloc mle (brf _ _) (.cells #[I O num,.string nm,I O o,I O tn,I O tm,.slice tp tl tc,.slice bp bn bc,I O least,I O ex,.bool needs] 31))).from hcap (show k+1≤L.length from hlt) ((k:Int)+1) (by omega)
   have HQ:=mh hq;have HBA:=mh (balloc mle hb (.cells #[I O num,.string nm,I O o,I O tn,I O tm,.slice tp tl tc,.slice bp bn bc,I O least,I O ex,.bool needs] 31));obtain⟨D,eD⟩:∃D,L.drop (k+1)=D:=⟨_,rfl⟩;have ED:=mh eD;rw[eD]at HQ hrun;have hDl:=HQ.out.len
   have HN:=mh (fun (h:∀j (hj:j<D.length),confB set L[k] D[j]=false)=>show cv=conf1 set (L.drop (k+1)) from by
    rw[HCV.out];exact conf1_next hlt (by rw[ED.out];exact h))
   have HH:=mh (fun j (hj:j<D.length) (h:∀m (hm:m<D.length),m<j→confB set L[k] D[m]=false) (h2:confB set L[k] D[j]=true)=>show cv=some (num,D[j].num) from by
    rw[HCV.out,RU.out];subst eD;exact conf1_hit hlt hj h h2)
   have HNM:=mh (fun j (hj:j<D.length)=>show 0≤D[j].num∧D[j].num≤15 from by
    subst eD;rw[List.getElem_drop];rw[List.length_drop]at hj
    exact errA_num _ (HA.out (k+1+j) (by omega)))
   clear hb hv hq eD
   go_wp2_with (fail)
   obtain⟨W1,eW1⟩:∃W:World,W=wo.alloc (.cells #[I O num,.string nm,I O o,I O tn,I O tm,.slice tp tl tc,.slice bp bn bc,I O least,I O ex,.bool needs] 31):=⟨_,rfl⟩;have HS1:=mh (show wo.heap.size<W1.heap.size by rw[eW1];simp);have V0:=mh (show W1.cell? ⟨wo.heap.size,0,none⟩=some (I O num) from by rw[eW1];exact cwn _ _ _ 0);have V8:=mh (show W1.cell? ⟨wo.heap.size,8,none⟩=some (I O ex) from by rw[eW1];exact cwn _ _ _ 8);have HB1' := mh (show Below w.heap.size w W1 from by rw[eW1];exact HBA.out);have HQ1:=mh (show SsAt Q W1 d q D from by rw[eW1];exact HQ.out);rw[← eW1];clear eW1 hrun
   go_loopw [32] (fun i wr=>∃j:Nat,j≤D.length∧i=I O j∧(∀m (hm:m<D.length),m<j→confB set L[k] D[m]=false)∧Below W1.heap.size W1 wr) (fun i _=>D.length - (intOf i).toNat)
   case atStart=>exact⟨0,Nat.zero_le _,rfl,fun j hj h=>absurd h (Nat.not_lt_zero j),brf _ _⟩
   case round =>
    obtain⟨wi,rfl⟩:∃wi:World,wi=wr:=⟨_,rfl⟩;obtain⟨j,hj,rfl,hm,hbi⟩:=hrel;have HM:=mh hm;have HBI:=mh hbi;have HBW:=mh (bstep mle HB1'.out hbi);have hx0:=(hbi.cell (p:=⟨wo.heap.size,0,none⟩) HS1.out).trans V0.out;have hx8:=(hbi.cell (p:=⟨wo.heap.size,8,none⟩) HS1.out).trans V8.out;have hlw:=nll HS1.out hbi.size;have hj0:(0:Int)≤(j:Int):=inn _
    by_cases hjk:j<D.length
    ·have hj1:(j:Int)<(D.length:Int):=by omega
     obtain⟨b', off', y,rfl,hyl,hY,hyv⟩:=(HQ1.out.below hbi).at hjk;have hyn:=HNM.out j hjk;have YU:=mh hyv.num;obtain⟨y0,y1,y2,y3,y4,y5,y6,y7,y8,y9⟩:=hY;obtain⟨ynum,ynm,⟨yo,ytn,ytm,ytp,ytl,ytc⟩,ybp,ybn,ybc,yleast,yex,yneeds⟩:=y;simp only at y0 y1 y2 y3 y4 y5 y6 y7 y8 y9 YU;rw[← YU.out]at hyn;obtain⟨g0,g15⟩:=hyn;have HBJ:=mh (balloc mle hbi (.cells #[I O ynum,.string ynm,I O yo,I O ytn,I O ytm,.slice ytp ytl ytc,.slice ybp ybn ybc,I O yleast,I O yex,.bool yneeds] 31));have HBX:=mh (balloc mle HBW.out (.cells #[I O ynum,.string ynm,I O yo,I O ytn,I O ytm,.slice ytp ytl ytc,.slice ybp ybn ybc,I O yleast,I O yex,.bool yneeds] 31));obtain⟨z1,e1⟩:∃z,bitB set num=z:=⟨_,rfl⟩;obtain⟨z2,e2⟩:∃z,bitB set ynum=z:=⟨_,rfl⟩;obtain⟨z3,e3⟩:∃z,bitB ex ynum=z:=⟨_,rfl⟩;have E1:(bits BinOp.and IntKind.i64 (set / 2 ^ num.toNat) 1==1)=z1:=by rw[bit_one,e1]
     have E2:(bits BinOp.and IntKind.i64 (set / 2 ^ ynum.toNat) 1==1)=z2:=by rw[bit_one,e2]
     have E3:(bits BinOp.and IntKind.i64 (ex / 2 ^ ynum.toNat) 1==1)=z3:=by rw[bit_one,e3]
     have CB:=mh (show confB set L[k] D[j]=(z1&&(z2&&z3)) from by unfold confB;rw[← RU.out,← YU.out,← RE.out,e1,e2,e3]);clear hm hbi hyv e1 e2 e3
     have STEP:=mh (fun (h:confB set L[k] D[j]=false)=>show ∀m (hm:m<D.length),m<j+1→confB set L[k] D[m]=false from fun m hm hmj=>by
      by_cases e:m=j
      ·subst e;exact h
      ·exact HM.out m hm (by omega))
     cases z1
     ·have HV:=mh (STEP.out (by rw[CB.out];rfl))
      go_wp2
      go_roundw
      case rel=>exact⟨j+1,by omega,by go_num,HV.out,HBJ.out⟩
      case measure=>simp[intOf];omega
     cases z2
     ·have HV:=mh (STEP.out (by rw[CB.out];rfl))
      go_wp2
      go_roundw
      case rel=>exact⟨j+1,by omega,by go_num,HV.out,HBJ.out⟩
      case measure=>simp[intOf];omega
     cases z3
     ·have HV:=mh (STEP.out (by rw[CB.out];rfl))
      go_wp2
      go_roundw
      case rel=>exact⟨j+1,by omega,by go_num,HV.out,HBJ.out⟩
      case measure=>simp[intOf];omega
     ·have HV:=mh (HH.out j hjk HM.out (by rw[CB.out];rfl))
      rw[← YU.out]at HV
      go_wp2
      obtain⟨W2,eW2⟩:∃W:World,W=wi.alloc (.cells #[I O ynum,.string ynm,I O yo,I O ytn,I O ytm,.slice ytp ytl ytc,.slice ybp ybn ybc,I O yleast,I O yex,.bool yneeds] 31):=⟨_,rfl⟩;have x0:W2.cell? ⟨wo.heap.size,0,none⟩=some (I O num):=by rw[eW2];exact(World.cell?_alloc_past _ _ _ hlw).trans hx0
      have x1:W2.cell? ⟨wi.heap.size,0,none⟩=some (I O ynum):=by rw[eW2];exact cwn _ _ _ 0
      have HB2:=mh (show Below w.heap.size w W2 from by rw[eW2];exact HBX.out);rw[← eW2];clear eW2
      go_quiet (fail)
      go_wp2
      go_ret3
      exact⟨by rw[HV.out];rfl,HB2.out.trans ((drewN_below _ _).mono HB2.out.size)⟩
    ·obtain rfl:j=D.length:=by omega
     have HV:=mh (HN.out fun m hm=>HM.out m hm hm);clear hm hbi
     go_wp2
     go_roundw
     case rel=>exact⟨k+1,by omega,by go_num,HV.out,HBW.out⟩
     case measure=>simp[intOf];omega
  ·obtain rfl:k=L.length:=by omega
   have HV:=mh (show cv=none from by rw[HCV.out,conf1_end]);clear hb
   go_wp2
   go_ret3
   exact⟨by rw[HV.out];rfl,HB.out⟩
namespace Sc
open Go.Lib Te Cr
structure GoodS (k:Nat) (st:PS):Prop where
 len:st.out.length≤k
 each:∀s∈st.out,s.br.length≤k∧s.nm.size≤16384∧count s.cond≤40
 last : -1≤st.last∧st.last≤15
 ex:∀A s,st.out=A ++ [s]→0≤s.ex∧s.ex<2 ^ (st.last+1).toNat
 zero:st.state=0→st.out = []
 some:st.state≠0→st.out ≠ []
 few:st.state=1∨st.state=2→∀A s,st.out=A ++ [s]→s.br = []
 more:3≤st.state→∀A s,st.out=A ++ [s]→s.br ≠ []
 four:st.state≤4
theorem good0:GoodS 0 ps0:=⟨by simp[ps0],fun s h=>by simp[ps0]at h,by simp[ps0],fun A s h=>by simp[ps0]at h,fun _=>rfl,fun h=>absurd rfl h,fun h=>by simp[ps0]at h,fun h=>by simp[ps0]at h,by simp[ps0]⟩
theorem GoodS.mono {k:Nat}{st:PS}(h:GoodS k st):GoodS (k+1) st :=
 ⟨Nat.le_succ_of_le h.len,fun s hs=>⟨Nat.le_succ_of_le (h.each s hs).1,(h.each s hs).2⟩,h.last,h.ex,h.zero,h.some,h.few,h.more,h.four⟩
theorem snoc_inj {A B:List Sch}{s t:Sch}(h:A ++ [s]=B ++ [t]):A=B∧s=t:=by
 have:=List.append_inj' h rfl;exact⟨this.1,by injection this.2⟩
theorem snoc_of {L:List Sch}(h:L ≠ []):∃A s,L=A ++ [s]:=by
 rcases List.eq_nil_or_concat L with e|⟨A,s,e⟩
 ·exact absurd e h
 ·exact⟨A,s,by rw[e,List.concat_eq_append]⟩
theorem headR_some {w:List (List UInt8)}{s:Sch}(h:headR w=some s):∃a b r num least,∃nm:List UInt8,w=a::nm::b::r∧(r = []∨r = [wEnt])∧Wo.nameB nm=true∧num0 a 15=some num∧num0 b 268435456=some least∧s=⟨num,⟨nm.toArray⟩,.mk 0 0 0 [], [],least,0,decide (r = [wEnt])⟩:=by
 unfold headR at h
 split at h
 ·rename_i a nm b r
  split at h
  ·rename_i h1
   split at h
   ·rename_i h2
    split at h
    ·rename_i n m e1 e2
     injection h with h
     exact⟨a,b,r,n,m,nm,rfl,h1,h2,e1,e2,h.symm⟩
    ·cases h
   ·cases h
  ·cases h
 ·cases h
theorem num0_bd {a:List UInt8}{most v:Int}(h:num0 a most=some v):0≤v∧v≤most:=by
 unfold num0 at h
 split at h
 ·split at h
  ·cases h
  ·injection h with h;omega
 ·cases h
theorem condR_left {w:List (List UInt8)}{t:Tm}(h:condR w = .inl t):chkT t=0:=by
 unfold condR at h
 split at h
 ·cases h
 ·rename_i t' r e
  split at h
  ·cases h
  ·rename_i h1
   split at h
   ·injection h with h;rw[← h];omega
   ·cases h
theorem GoodS.step {k:Nat}{st st2:PS}{w:List (List UInt8)}(h:GoodS k st)(hw:w ≠ [])(hz:∀x∈w,x.length≤16384)(hs:stepP st w = .inl st2):GoodS (k+1) st2:=by
 rw[stepP.eq_def]at hs
 cases w with
 | nil=>exact absurd rfl hw
 | cons x r =>
   dsimp only at hs
   split at hs
   ·split at hs
    ·rename_i s e
     injection hs with hs
     subst hs;obtain⟨a,b,r2,num,least,nm,rfl,h1,h2,h3,h4,rfl⟩:=headR_some e;have hnz:=hz nm (by simp);refine⟨by have:=h.len;simp;omega,fun s hs=>?_,by simp,fun A s e=>?_,by simp,by simp,fun _ A s e=>?_,by simp,by simp⟩
     ·simp only[List.mem_append,List.mem_singleton]at hs
      rcases hs with hs|rfl
      ·have:=h.each s hs;exact⟨by omega,this.2⟩
      ·exact⟨by simp,hnz,by show Te.count (Tm.mk 0 0 0 [])≤40;simp[Te.count,countL]⟩
     ·obtain⟨-,rfl⟩:=snoc_inj e
      simp
     ·obtain⟨-,rfl⟩:=snoc_inj e
      rfl
    ·cases hs
   split at hs
   ·rename_i hst
    split at hs
    ·rename_i t e
     injection hs with hs
     subst hs;obtain⟨A,s0,eo⟩:=snoc_of (h.some (by omega));have ct:=(chkT_ok (condR_left e)).1;have hb0:=h.few (by omega) A s0 eo;rw[eo,onLast_snoc];refine⟨by have:=h.len;rw[eo]at this;simp at this ⊢;omega,fun s hs=>?_,h.last,fun A' s e=>?_,by simp,by simp,fun _ A' s e=>?_,by simp,by simp⟩
     ·simp only[List.mem_append,List.mem_singleton]at hs
      rcases hs with hs|rfl
      ·have:=h.each s (by rw[eo];simp[hs]);exact⟨by omega,this.2⟩
      ·have:=h.each s0 (by rw[eo];simp);exact⟨by simp only;omega,this.2.1,ct⟩
     ·obtain⟨-,rfl⟩:=snoc_inj e
      exact h.ex A s0 eo
     ·obtain⟨-,rfl⟩:=snoc_inj e
      exact hb0
    ·cases hs
   split at hs
   ·rename_i hst
    split at hs
    ·rename_i b e
     injection hs with hs
     subst hs;obtain⟨A,s0,eo⟩:=snoc_of (h.some (by omega));rw[eo,onLast_snoc];refine⟨by have:=h.len;rw[eo]at this;simp at this ⊢;omega,fun s hs=>?_,h.last,fun A' s e=>?_,by simp,by simp,by simp,fun _ A' s e=>?_,by simp⟩
     ·simp only[List.mem_append,List.mem_singleton]at hs
      rcases hs with hs|rfl
      ·have:=h.each s (by rw[eo];simp[hs]);exact⟨by omega,this.2⟩
      ·have:=h.each s0 (by rw[eo];simp);exact⟨by simp only[lap,List.length_cons,List.length_nil];omega,this.2⟩
     ·obtain⟨-,rfl⟩:=snoc_inj e
      exact h.ex A s0 eo
     ·obtain⟨-,rfl⟩:=snoc_inj e
      simp
    ·cases hs
   split at hs
   ·rename_i hst
    split at hs
    ·rename_i a
     split at hs
     ·rename_i x e
      split at hs
      ·cases hs
      ·rename_i hxl
       injection hs with hs
       subst hs;obtain⟨A,s0,eo⟩:=snoc_of (h.some (by omega));obtain⟨x0,x1⟩:=num0_bd e;obtain⟨e0,e1⟩:=h.ex A s0 eo;have hmono:(2:Int) ^ (st.last+1).toNat≤2 ^ x.toNat:=by
        have:(2:Nat) ^ (st.last+1).toNat≤2 ^ x.toNat:=Nat.pow_le_pow_right (by omega) (by omega)
        exact_mod_cast this
       have hb0:=h.more (by omega) A s0 eo;rw[eo,onLast_snoc];refine⟨by have:=h.len;rw[eo]at this;simp at this ⊢;omega,fun s hs=>?_,by simp only;omega,fun A' s e=>?_,by simp,by simp,by simp,fun _ A' s e=>?_,by simp⟩
       ·simp only[List.mem_append,List.mem_singleton]at hs
        rcases hs with hs|rfl
        ·have:=h.each s (by rw[eo];simp[hs]);exact⟨by omega,this.2⟩
        ·have:=h.each s0 (by rw[eo];simp);exact⟨by simp only;omega,this.2⟩
       ·obtain⟨-,rfl⟩:=snoc_inj e
        have ep:(2:Int) ^ (x+1).toNat=2 ^ x.toNat*2:=by rw[show(x+1).toNat=x.toNat+1 by omega,Int.pow_succ]
        have:(0:Int)<2 ^ x.toNat:=Int.pow_pos (by omega);simp only;rw[ep];omega
       ·obtain⟨-,rfl⟩:=snoc_inj e
        exact hb0
     ·cases hs
    ·cases hs
   ·cases hs
theorem step_err {st:PS}{w:List (List UInt8)}{er:Int}(hw:w ≠ [])(hs:stepP st w = .inr er):er=4∨er=1∨er=16:=by
 rw[stepP.eq_def]at hs
 cases w with
 | nil=>exact absurd rfl hw
 | cons x r =>
   dsimp only at hs
   split at hs
   ·split at hs
    ·cases hs
    ·injection hs with hs;exact .inl hs.symm
   split at hs
   ·split at hs
    ·cases hs
    ·rename_i e e2
     injection hs with hs
     subst hs;unfold condR at e2
     split at e2
     ·injection e2 with e2;exact .inl e2.symm
     ·split at e2
      ·injection e2 with e2
       rename_i t _ _ _
       rw[← e2];unfold chkT
       split
       ·omega
       ·split
        ·omega
        ·rename_i h1 h2 h3 h4;exfalso;unfold chkT at *;simp_all
      ·split at e2
       ·cases e2
       ·injection e2 with e2;exact .inl e2.symm
   split at hs
   ·split at hs
    ·cases hs
    ·injection hs with hs;exact .inl hs.symm
   split at hs
   ·split at hs
    ·split at hs
     ·split at hs
      ·injection hs with hs;exact .inl hs.symm
      ·cases hs
     ·injection hs with hs;exact .inl hs.symm
    ·injection hs with hs;exact .inl hs.symm
   ·injection hs with hs;exact .inl hs.symm
end Sc
namespace Wo
open Go.Lib
theorem idxFrom_any (p:Nat→Bool)(hp:∀x,128≤x→p x=true)(s:ByteArray):∀(f pos:Nat),s.size≤pos+f→decide (0≤idxFuncFrom p true s f pos)=(s.data.toList.drop pos).any fun c=>p c.toNat
 | 0,pos,h=>by
   have:s.data.toList.drop pos = []:=List.drop_of_length_le (by rw[Array.length_toList];exact h);rw[this]
   simp[idxFuncFrom]
 | f+1,pos,h=>by
   unfold idxFuncFrom
   by_cases hlt:pos<s.size
   ·have hd:s.data.toList.drop pos=s[pos]::s.data.toList.drop (pos+1):=by
     rw[List.drop_eq_getElem_cons (by simpa using hlt)];rfl
    rw[if_pos hlt,hd,List.any_cons]
    by_cases ha:(s[pos]).toNat<128
    ·rw[decode_ascii s pos hlt ha]
     by_cases hq:p (s[pos]).toNat=true
     ·rw[if_pos hq,hq];simp
     ·rw[if_neg hq,idxFrom_any p hp s f (pos+1) (by omega)]
      rw[Bool.not_eq_true]at hq;rw[hq,Bool.false_or]
    ·have hq:=hp _ (decode_high s pos hlt (by omega)).1
     rw[if_pos hq,hp (s[pos]).toNat (by omega)];simp
   ·have:s.data.toList.drop pos = []:=List.drop_of_length_le (by rw[Array.length_toList];exact Nat.le_of_not_lt hlt)
    rw[if_neg hlt,this];simp
theorem contains_any (p:Nat→Bool)(hp:∀x,128≤x→p x=true)(s:ByteArray):decide (0≤idxFunc p true s)=s.data.toList.any fun c=>p c.toNat:=by
 unfold idxFunc;rw[idxFrom_any p hp s s.size 0 (by omega)]
 rfl
end Wo
end Go.Proofs.YtbcmabolkkfgfaaGreatDoor
