/- Packed. -/
import Derived.Test.YtbcmabolkkfgfaaGreatDoorQ12
import Derived.Test.YtbcmabolkkfgfaaGreatDoorQ13
set_option maxRecDepth 100000
set_option maxHeartbeats 3000000
open Go.Value renaming int → I
open Go.IntKind renaming i64 → O
namespace Go.Proofs.YtbcmabolkkfgfaaGreatDoor
open Go.RowKit Te Sc
def ChkG (v:Int × Int) (w:World) (e:Ending) (w' : World):Prop:=e = .returned (.tuple #[I O v.1,I O v.2])∧Below w.heap.size w w'
theorem chk_long {L:List Sch}(h:16<L.length):chk17 L=(0,1):=by unfold chk17;rw[if_pos h]
theorem chk_A {L:List Sch}(h:¬16<L.length){k:Nat}(hk:k<L.length)(ha:∀j,j<k→errA L j=0)(h2:errA L k≠0):chk17 L=((k:Int),errA L k):=by
 unfold chk17;rw[if_neg h,fst_some hk ha h2]
theorem chk_B {L:List Sch}(h:¬16<L.length)(hA:∀j,j<L.length→errA L j=0){k:Nat}(hk:k<L.length)(ha:∀j,j<k→errB L j=0)(h2:errB L k≠0):chk17 L=((k:Int),17):=by
 unfold chk17;rw[if_neg h,fst_none hA];simp only;rw[fst_some hk ha h2]
theorem chk_ok {L:List Sch}(h:¬16<L.length)(hA:∀j,j<L.length→errA L j=0)(hB:∀j,j<L.length→errB L j=0):chk17 L=(-1,0):=by
 unfold chk17;rw[if_neg h,fst_none hA];simp only;rw[fst_none hB]
theorem errA_one {L:List Sch}{k:Nat}(hk:k<L.length)(h:one17 L[k]≠0):errA L k=one17 L[k]:=by
 unfold errA;rw[List.getElem?_eq_getElem hk];simp only;rw[if_pos h]
theorem errA_twice {L:List Sch}{k:Nat}(hk:k<L.length)(h:one17 L[k]=0):errA L k=if twice L k L[k]=true then 6 else 0:=by
 unfold errA;rw[List.getElem?_eq_getElem hk];simp only;rw[if_neg (by omega)]
theorem errB_at {L:List Sch}{k:Nat}(hk:k<L.length):errB L k=if mutual17 L L[k]=true then 0 else 17:=by
 unfold errB;rw[List.getElem?_eq_getElem hk]
theorem one_num {s:Sch}(h:one17 s=0):0≤s.num∧s.num≤15:=by
 unfold one17 at h
 split at h
 ·cases h
 ·omega
theorem errA_num {L:List Sch}{k:Nat}(hk:k<L.length)(h:errA L k=0):0≤L[k].num∧L[k].num≤15:=by
 by_cases h1:one17 L[k]=0
 ·exact one_num h1
 ·rw[errA_one hk h1]at h;exact absurd h h1
theorem twice_num {L:List Sch}{m:Nat}{s:Sch}(hm:m<L.length)(h:s.num≤L[m].num):twice L (m+1) s=true:=by
 unfold twice;simp only;rw[List.getElem?_eq_getElem hm];simp only;rw[dqt h,Bool.true_or]
theorem twice_any {L:List Sch}{m:Nat}{s:Sch}(hm:m<L.length)(h:¬s.num≤L[m].num):twice L (m+1) s=(L.take (m+1)).any (nmIs s.nm):=by
 unfold twice;simp only;rw[List.getElem?_eq_getElem hm];simp only;rw[dqf h,Bool.false_or];rfl
theorem twice_zero {L:List Sch}{s:Sch}:twice L 0 s=(L.take 0).any (nmIs s.nm):=by
 unfold twice;simp
theorem wp_tailQ {P:Program}{id:Nat}{Q:Exit→Act→World→Prop}{a:Act}{w:World}{l:List Oper}(n:Nat)(hm:P.follows .mixedOrders=true)(hB:Region.lexTailB .any l.toArray n=true)
  (h:∀R:Act→Prop,(∀a', wpList P l.toArray Q (l.drop n) a' w.drew→R a')→wpStill P l.toArray w.drew R (l.take n) a):(Code.region id l.toArray true).wp P Q a w:=wp_tail n hm hB (h _ fun _ k=>k)
theorem wpStill_skip {P:Program}{ops:Array Oper}{w:World}{Q:Act→Prop}{a:Act}{o:Oper}{rest:List Oper}(h0:Region.wanted o (yielded ops a.tmps)=false)(h:wpStill P ops w Q rest (a.put o.dst undef)):wpStill P ops w Q (o::rest) a:=by
 rw[wpStill,if_neg (by rw[h0];simp)];exact h
theorem check17_any {Q:Nat→Prop}(d:Nat)(p:Option Addr)(L:List Sch)(cap:Nat)(w:World)(h:SsAt Q w d p L)(hz:∀s∈L,s.nm.size≤9223372036854775807)(hcap:L.length≤cap) :
  Calls Tryz.prog 9 #[.slice p L.length cap] w (ChkG (chk17 L) w):=by
 have hlen:=h.len;have H:=mh h;have HZ:=mh hz;clear h hz;obtain⟨cv,ecv⟩:∃v,chk17 L=v:=⟨_,rfl⟩;rw[ecv];have ECV:=mh ecv;clear ecv
 by_cases h16:16<L.length
 ·have HV:=mh (show cv=(0,1) from ECV.out▸chk_long h16)
  go_enter Tryz.func9,Tryz.ntmps9
  go_wp2
  go_ret2
  exact⟨by rw[HV.out];rfl,brf _ _⟩
 go_enter Tryz.func9,Tryz.ntmps9
 go_wp2
 go_loopw [14] (fun i wr=>∃k:Nat,k≤L.length∧i=I O k∧(∀j,j<k→errA L j=0)∧Below w.heap.size w wr) (fun i _=>L.length - (intOf i).toNat)
 case atStart=>exact⟨0,Nat.zero_le _,rfl,fun j hj=>absurd hj (Nat.not_lt_zero j),brf _ _⟩
 case round =>
  obtain⟨wo,rfl⟩:∃wo:World,wo=wr:=⟨_,rfl⟩;obtain⟨k,hk,rfl,ha,hb⟩:=hrel;have HAL:=mh ha;have HB:=mh hb;have hk0:(0:Int)≤(k:Int):=inn _
  by_cases hlt:k<L.length
  ·have hk1:(k:Int)<(L.length:Int):=by omega
   obtain⟨b,off,r,rfl,hbl,hC,hv⟩:=(H.out.below hb).at hlt;have CV:=mh (valid_any d r L[k] _ (hv.below (balloc mle (brf _ _) (.cells (sCells r).toArray 31))) (by rw[hv.nm];exact HZ.out _ (List.getElem_mem hlt)));have HQ:=mh hv;have RN:=mh hv.nm;have RU:=mh hv.num;obtain⟨c0,c1,c2,c3,c4,c5,c6,c7,c8,c9⟩:=hC;obtain⟨num,nm,⟨o,tn,tm,tp,tl,tc⟩,bp,bn,bc,least,ex,needs⟩:=r;simp only at c0 c1 c2 c3 c4 c5 c6 c7 c8 c9 RN RU;simp only[sCells]at CV;have HBA:=mh (balloc mle HB.out (.cells #[I O num,.string nm,I O o,I O tn,I O tm,.slice tp tl tc,.slice bp bn bc,I O least,I O ex,.bool needs] 31));obtain⟨v,ev⟩:∃v,one17 L[k]=v:=⟨_,rfl⟩;have EV:=mh ev;rw[ev]at CV;clear ha hb hv ev
   by_cases hv0:v=0
   ·subst hv0
    have E6:=mh (fun (h:twice L k L[k]=true)=>(show cv=((k:Int),6) from by rw[← ECV.out,chk_A h16 hlt HAL.out (by rw[errA_twice hlt EV.out,if_pos h];decide),errA_twice hlt EV.out,if_pos h]));have E0:=mh (fun (h:twice L k L[k]=false)=>(show errA L k=0 from by rw[errA_twice hlt EV.out,if_neg (by rw[h];decide)]))
    have CN:=mh (fun (W:World) (hW:Below w.heap.size w W) (hc1:W.cell? ⟨wo.heap.size,1,none⟩=some (.string nm)) (hl1:wo.heap.size<W.heap.size)=>(show Calls Tryz.prog 29 #[.slice (some ⟨b,off,none⟩) k cap,.func (.func 30) #[] #[.pointer (some ⟨wo.heap.size,0,none⟩)]] W (BoolG ((L.take k).any (nmIs nm)) W) from by
     have:=containsname_any d (some ⟨b,off,none⟩) (L.take k) cap wo.heap.size nm W ((H.out.below hW).take k) hc1 hl1;rw[List.length_take,Nat.min_eq_left hk]at this
     exact this))
    rcases Nat.eq_zero_or_pos k with hk00|hkp
    ·subst hk00
     have TW:=mh (show twice L 0 L[0]=(L.take 0).any (nmIs nm) from by rw[RN.out];exact twice_zero);have TF:(L.take 0).any (nmIs nm)=false:=by simp
     rw[TF]at CN TW;clear TF;have hcz:(0:Int)≤(cap:Int):=inn _
     ·have HV:=mh (E0.out TW.out)
      rw[Nat.zero_mul,Nat.add_zero]at c0 c1 c2 c3 c4 c5 c6 c7 c8 c9;rw[show((0:Nat):Int)=0 from rfl]
      go_wp2_with (first|(go_at_call 28;(with_reducible refine cmo CV.out ?_);rintro e w1 ⟨rfl,hb1⟩;have HB1:=mh (bstep mle HBA.out hb1);have v0:=mcell hb1 0;have v1:=mcell hb1 1;have v2:=mcell hb1 2;have v3:=mcell hb1 3;have v4:=mcell hb1 4;have v5:=mcell hb1 5;have v6:=mcell hb1 6;have v7:=mcell hb1 7;have v8:=mcell hb1 8;have v9:=mcell hb1 9;have HD1:=mh (show Below w.heap.size w w1.drew from HB1.out.drew);have HS1:=mh (show wo.heap.size<w1.heap.size from nll (by simp) hb1.size);clear hb1))
      refine wp_tailQ 18 (by kernel_rfl) (by kernel_rfl) (fun R hR=>?_)
      simp only[List.take_succ_cons,List.take_zero,List.drop_succ_cons,List.drop_zero]at hR ⊢
      still_step
      still_step
      still_step
      iterate 9 ((with_reducible refine wpStill_skip (by kernel_rfl) ?_);simp only[Act.put,mnA,mnB,mnC])
      still_step
      still_step
      still_step
      still_step
      still_step
      still_step
      with_reducible refine wpStill_nil ?_
      with_reducible refine hR _ ?_
      clear hR R;have CW:=mh (CN.out w1.drew HD1.out v1 HS1.out)
      go_wp2_with (first|(go_at_call 29;(with_reducible refine cmo CW.out ?_);rintro e w2 ⟨rfl,hb2⟩;have HB2:=mh (HD1.out.trans (hb2.mono HD1.out.size));clear hb2))
      go_roundw
      case rel=>exact⟨1,by omega,by go_num,fun j hj=>by
       by_cases e:j=0
       ·subst e;exact HV.out
       ·omega,HB2.out⟩
      case measure=>simp[intOf];omega
    ·obtain⟨m,rfl⟩:∃m,k=m+1:=⟨k - 1,by omega⟩
     obtain⟨b', off', y,ey, -,hCy,hy⟩:=(H.out.below HB.out).at (show m<L.length by omega)
     cases ey
     have Y0:=mh hCy.c0;have YN:=mh hy.num;obtain⟨pn,epn⟩:∃x,y.num=x:=⟨_,rfl⟩;rw[epn]at Y0 YN;clear hCy hy epn;obtain⟨i,ei⟩:∃i:Int,((m+1:Nat):Int)=i:=⟨_,rfl⟩;have EI:=mh ei
     by_cases hle:num≤pn
     ·have HV:=mh (E6.out (twice_num (by omega) (by rw[← RU.out,← YN.out];exact hle)))
      have d1:decide (num≤pn)=true:=dqt hle;clear hle ei
      go_wp2_with (first|(go_at_call 28;(with_reducible refine cmo CV.out ?_);rintro e w1 ⟨rfl,hb1⟩;have HB1:=mh (bstep mle HBA.out hb1);have v0:=mcell hb1 0;have v1:=mcell hb1 1;have v2:=mcell hb1 2;have v3:=mcell hb1 3;have v4:=mcell hb1 4;have v5:=mcell hb1 5;have v6:=mcell hb1 6;have v7:=mcell hb1 7;have v8:=mcell hb1 8;have v9:=mcell hb1 9;have HD1:=mh (show Below w.heap.size w w1.drew from HB1.out.drew);have HS1:=mh (show wo.heap.size<w1.heap.size from nll (by simp) hb1.size);have hy0:=(hb1.cell (p:=⟨b,off+m*10,none⟩) (show b<(wo.alloc _).heap.size by simp;omega)).trans ((World.cell?_alloc_past _ _ _ hbl).trans Y0.out);clear hb1))
      go_quiet (fail)
      go_wp2
      go_ret2
      exact⟨by rw[HV.out];rfl,HB1.out.trans ((drewN_below _ _).mono HB1.out.size)⟩
     ·have d1:decide (num≤pn)=false:=dqf hle
      have TW:=mh (show twice L (m+1) L[m+1]=(L.take (m+1)).any (nmIs nm) from by rw[RN.out];exact twice_any (by omega) (by rw[← RU.out,← YN.out];exact hle));obtain⟨z,ez⟩:∃z,(L.take (m+1)).any (nmIs nm)=z:=⟨_,rfl⟩;rw[ez]at CN TW;obtain⟨j,ej⟩:∃j:Int,(m:Int)=j:=⟨_,rfl⟩;have hi0:0<i:=by omega
      have hi1:i<(L.length:Int):=by omega
      have hic:i≤(cap:Int):=by omega
      have hit:i.toNat=m+1:=by omega
      have hij:i - 1=j:=by omega
      have hj0:0≤j:=by omega
      have hj1:j<(L.length:Int):=by omega
      have hjt:j.toNat=m:=by omega
      have hw:IntKind.i64.wrap (i - 1)=j:=by rw[hij,IntKind.wrap_i64];omega
      rw[ei];rw[ei]at hk0 hk1;have hwj:IntKind.i64.wrap j=j:=by rw[IntKind.wrap_i64];omega
      clear hle ei ez ej hij
      cases z
      ·have HV:=mh (E0.out TW.out)
       go_wp2_with (first|(go_at_call 28;(with_reducible refine cmo CV.out ?_);rintro e w1 ⟨rfl,hb1⟩;have HB1:=mh (bstep mle HBA.out hb1);have v0:=mcell hb1 0;have v1:=mcell hb1 1;have v2:=mcell hb1 2;have v3:=mcell hb1 3;have v4:=mcell hb1 4;have v5:=mcell hb1 5;have v6:=mcell hb1 6;have v7:=mcell hb1 7;have v8:=mcell hb1 8;have v9:=mcell hb1 9;have HD1:=mh (show Below w.heap.size w w1.drew from HB1.out.drew);have HS1:=mh (show wo.heap.size<w1.heap.size from nll (by simp) hb1.size);have hy0:=(hb1.cell (p:=⟨b,off+m*10,none⟩) (show b<(wo.alloc _).heap.size by simp;omega)).trans ((World.cell?_alloc_past _ _ _ hbl).trans Y0.out);clear hb1))
       refine wp_tailQ 18 (by kernel_rfl) (by kernel_rfl) (fun R hR=>?_)
       simp only[List.take_succ_cons,List.take_zero,List.drop_succ_cons,List.drop_zero]at hR ⊢
       iterate 18 still_step
       with_reducible refine wpStill_nil ?_
       with_reducible refine hR _ ?_
       clear hR R;have CW:=mh (CN.out w1.drew HD1.out v1 HS1.out)
       go_wp2_with (first|(go_at_call 29;(with_reducible refine cmo CW.out ?_);rintro e w2 ⟨rfl,hb2⟩;have HB2:=mh (HD1.out.trans (hb2.mono HD1.out.size));clear hb2))
       go_roundw
       case rel=>exact⟨m+1+1,by omega,by rw[← EI.out];go_num,fun j hj=>by
        by_cases e:j=m+1
        ·subst e;exact HV.out
        ·exact HAL.out j (by omega),HB2.out⟩
       case measure=>rw[← EI.out];simp[intOf];omega
      ·have HV:=mh (E6.out TW.out)
       go_wp2_with (first|(go_at_call 28;(with_reducible refine cmo CV.out ?_);rintro e w1 ⟨rfl,hb1⟩;have HB1:=mh (bstep mle HBA.out hb1);have v0:=mcell hb1 0;have v1:=mcell hb1 1;have v2:=mcell hb1 2;have v3:=mcell hb1 3;have v4:=mcell hb1 4;have v5:=mcell hb1 5;have v6:=mcell hb1 6;have v7:=mcell hb1 7;have v8:=mcell hb1 8;have v9:=mcell hb1 9;have HD1:=mh (show Below w.heap.size w w1.drew from HB1.out.drew);have HS1:=mh (show wo.heap.size<w1.heap.size from nll (by simp) hb1.size);have hy0:=(hb1.cell (p:=⟨b,off+m*10,none⟩) (show b<(wo.alloc _).heap.size by simp;omega)).trans ((World.cell?_alloc_past _ _ _ hbl).trans Y0.out);clear hb1))
       refine wp_tailQ 18 (by kernel_rfl) (by kernel_rfl) (fun R hR=>?_)
       simp only[List.take_succ_cons,List.take_zero,List.drop_succ_cons,List.drop_zero]at hR ⊢
       iterate 18 still_step
       with_reducible refine wpStill_nil ?_
       with_reducible refine hR _ ?_
       clear hR R;have CW:=mh (CN.out w1.drew HD1.out v1 HS1.out)
       go_wp2_with (first|(go_at_call 29;(with_reducible refine cmo CW.out ?_);rintro e w2 ⟨rfl,hb2⟩;have HB2:=mh (HD1.out.trans (hb2.mono HD1.out.size));clear hb2))
       go_ret2
       exact⟨by rw[HV.out,EI.out];rfl,HB2.out⟩
   ·have HV:=mh (show cv=((k:Int),v) from by rw[← ECV.out,chk_A h16 hlt HAL.out (by rw[errA_one hlt (by rw[EV.out];exact hv0),EV.out];exact hv0),errA_one hlt (by rw[EV.out];exact hv0),EV.out])
    go_wp2_with (first|(go_at_call 28;(with_reducible refine cmo CV.out ?_);rintro e w1 ⟨rfl,hb1⟩;have HB1:=mh (bstep mle HBA.out hb1);have v0:=mcell hb1 0;have v1:=mcell hb1 1;have v2:=mcell hb1 2;have v3:=mcell hb1 3;have v4:=mcell hb1 4;have v5:=mcell hb1 5;have v6:=mcell hb1 6;have v7:=mcell hb1 7;have v8:=mcell hb1 8;have v9:=mcell hb1 9;clear hb1))
    go_ret2
    exact⟨by rw[HV.out];rfl,HB1.out⟩
  ·obtain rfl:k=L.length:=by omega
   clear ha hb;have HBO:=HB
   go_wp2
   go_loopw [49] (fun i wr=>∃k:Nat,k≤L.length∧i=I O k∧(∀j,j<k→errB L j=0)∧Below w.heap.size w wr) (fun i _=>L.length - (intOf i).toNat)
   case atStart=>exact⟨0,Nat.zero_le _,rfl,fun j hj=>absurd hj (Nat.not_lt_zero j),HBO.out⟩
   case round =>
    obtain⟨wp,rfl⟩:∃wp:World,wp=wr:=⟨_,rfl⟩;obtain⟨k,hk,rfl,ha,hb⟩:=hrel;have HBL:=mh ha;have HC:=mh hb;have hk0' : (0:Int)≤(k:Int):=inn _
    by_cases hlt:k<L.length
    ·have hk1:(k:Int)<(L.length:Int):=by omega
     obtain⟨b,off,r,rfl,hbl,hCc,hv⟩:=(H.out.below hb).at hlt;have HN:=errA_num hlt (HAL.out k hlt);have CV:=mh (mutual_any d (some ⟨b,off,none⟩) L cap r L[k] _ (H.out.below (balloc mle hb (.cells (sCells r).toArray 31))) hv.num hv.ex (by rw[hv.num];exact HN.1) (by rw[hv.num];exact HN.2));obtain⟨c0,c1,c2,c3,c4,c5,c6,c7,c8,c9⟩:=hCc;obtain⟨num,nm,⟨o,tn,tm,tp,tl,tc⟩,bp,bn,bc,least,ex,needs⟩:=r;simp only at c0 c1 c2 c3 c4 c5 c6 c7 c8 c9;simp only[sCells]at CV;have HBA:=mh (balloc mle HC.out (.cells #[I O num,.string nm,I O o,I O tn,I O tm,.slice tp tl tc,.slice bp bn bc,I O least,I O ex,.bool needs] 31));have ER:=mh (errB_at hlt);obtain⟨mb,em⟩:∃v,mutual17 L L[k]=v:=⟨_,rfl⟩;rw[em]at CV ER;clear ha hb hv em HN
     cases mb
     ·have HV:=mh (show cv=((k:Int),17) from by rw[← ECV.out,chk_B h16 HAL.out hlt HBL.out (by rw[ER.out];decide)])
      go_wp2_with (first|(go_at_call 31;(with_reducible refine cmo CV.out ?_);rintro e w1 ⟨rfl,hb1⟩;have HB1:=mh (bstep mle HBA.out hb1);clear hb1))
      go_ret2
      exact⟨by rw[HV.out];rfl,HB1.out⟩
     ·go_wp2_with (first|(go_at_call 31;(with_reducible refine cmo CV.out ?_);rintro e w1 ⟨rfl,hb1⟩;have HB1:=mh (bstep mle HBA.out hb1);clear hb1))
      go_roundw
      case rel=>exact⟨k+1,by omega,by go_num,fun j hj=>by
       by_cases e:j=k
       ·subst e;rw[ER.out];rfl
       ·exact HBL.out j (by omega),HB1.out⟩
      case measure=>simp[intOf];omega
    ·obtain rfl:k=L.length:=by omega
     have HV:=mh (show cv=(-1,0) from ECV.out▸chk_ok h16 HAL.out HBL.out);clear ha hb
     go_wp2
     go_ret2
     exact⟨by rw[HV.out];rfl,HC.out⟩
theorem refone_any {Q:Nat→Prop}(d:Nat)(r:RSx)(s:Sch)(w:World)(h:SV Q w d r s)(hz:r.nm.size≤9223372036854775807)(hc:count s.cond≤1099511627776) :
  Calls Tryz.prog 32 #[.agg #[I O r.num,.string r.nm,I O r.t.op,I O r.t.num,I O r.t.more,.slice r.t.p r.t.n r.t.c,.slice r.bp r.bn r.bc,I O r.least,I O r.ex,.bool r.needs]] w (IntG (one17 s) w):=by
 have hA:Below w.heap.size w (w.alloc (.cells #[I O r.num,.string r.nm,I O r.t.op,I O r.t.num,I O r.t.more,.slice r.t.p r.t.n r.t.c,.slice r.bp r.bn r.bc,I O r.least,I O r.ex,.bool r.needs] 31)):=(brf _ _).alloc mle _;have NM:=mh (show ∀W,Calls Tryz.prog 52 #[.string r.nm] W (fun e w' => e = .returned (.bool (Wo.nameB s.nm.data.toList))∧W=w') from fun W=>h.nm▸refname_any r.nm W hz);have CK:=mh (refcheck16_any d r.t s.cond _ (h.below hA).t hc);have BK:=mh (fun (W:World) (hW:Below w.heap.size w W)=>show Calls Tryz.prog 54 #[.slice r.bp r.bn r.bc] W (BoolG (brB s.br) W) from refbrackets_any r.bp s.br r.bn r.bc W h.bn (h.below hW).br);obtain⟨v,ev⟩:∃v,one17 s=v:=⟨_,rfl⟩;have OC:=one_cases (show oneV r.num r.least r.ex (Wo.nameB s.nm.data.toList) (chkT s.cond) (brB s.br) (bitB r.ex r.num)=v from by rw[← ev,h.num,h.least,h.ex];rfl);rw[ev];obtain⟨nb,enb⟩:∃x,Wo.nameB s.nm.data.toList=x:=⟨_,rfl⟩;obtain⟨ck,eck⟩:∃x,chkT s.cond=x:=⟨_,rfl⟩;obtain⟨bb,ebb⟩:∃x,brB s.br=x:=⟨_,rfl⟩;rw[enb]at NM OC;rw[eck]at CK OC;rw[ebb]at BK OC;clear enb eck ebb h ev hz hc;obtain⟨num,nm,⟨o,tn,tm,tp,tl,tc⟩,bp,bn,bc,least,ex,needs⟩:=r;have HA:=mh hA;clear hA;have HA0:=mh (show w.heap.size<(w.alloc (.cells #[I O num,.string nm,I O o,I O tn,I O tm,.slice tp tl tc,.slice bp bn bc,I O least,I O ex,.bool needs] 31)).heap.size by simp);obtain⟨bit,ebit⟩:∃x,bitB ex num=x:=⟨_,rfl⟩;have EB:(bits BinOp.and IntKind.i64 (ex / 2 ^ num.toNat) 1==1)=bit:=by rw[bit_one,ebit]
 simp only[ebit]at OC;clear ebit;obtain⟨O1,O2,O3,O4,O5⟩:=OC
 replace O1:=mh O1
 replace O2:=mh O2
 replace O3:=mh O3
 replace O4:=mh O4
 replace O5:=mh O5
 by_cases g:num<0∨15<num∨least<0∨268435456<least
 ·have HV:=mh (O1.out g)
  have G:=mh g;clear g
  by_cases g1:num<0
  ·go_enter Tryz.func32,Tryz.ntmps32
   go_wp2_with (fail)
   go_ret
   exact⟨ret_int HV.out.symm,HA.out⟩
  by_cases g2:15<num
  ·go_enter Tryz.func32,Tryz.ntmps32
   go_wp2_with (fail)
   go_ret
   exact⟨ret_int HV.out.symm,HA.out⟩
  by_cases g3:least<0
  ·go_enter Tryz.func32,Tryz.ntmps32
   go_wp2_with (fail)
   go_ret
   exact⟨ret_int HV.out.symm,HA.out⟩
  have g4:268435456<least:=by have:=G.out;omega
  ·go_enter Tryz.func32,Tryz.ntmps32
   go_wp2_with (fail)
   go_ret
   exact⟨ret_int HV.out.symm,HA.out⟩
 ·have hn0:0≤num:=by omega
  have hn1:num≤15:=by omega
  have hl0:0≤least:=by omega
  have hl1:least≤268435456:=by omega
  have G:=mh g;clear g
  cases nb
  ·have HV:=mh (O2.out G.out rfl)
   go_enter Tryz.func32,Tryz.ntmps32
   go_wp2_with (first|(go_at_call 52;(with_reducible refine cmo (NM.out _) ?_);rintro e w1 ⟨rfl,rfl⟩)|(go_at_call 53;(with_reducible refine cmo CK.out ?_);rintro e w2 ⟨rfl,hb2⟩;have HS2:=mh (show w.heap.size<w2.heap.size from nll HA0.out hb2.size);have BK1:=mh (BK.out _ (bstep mle HA.out hb2));have HB2:=mh (bstep mle HA.out hb2);have hk0:=mcell hb2 0;have hk1:=mcell hb2 1;have hk2:=mcell hb2 2;have hk3:=mcell hb2 3;have hk4:=mcell hb2 4;have hk5:=mcell hb2 5;have hk6:=mcell hb2 6;have hk7:=mcell hb2 7;have hk8:=mcell hb2 8;have hk9:=mcell hb2 9;clear hb2)|(go_at_call 54;(with_reducible refine cmo BK1.out ?_);rintro e w3 ⟨rfl,hb3⟩;have hj0:=(hb3.cell (p:=⟨w.heap.size,0,none⟩) (by have:=HS2.out;omega)).trans hk0;have hj8:=(hb3.cell (p:=⟨w.heap.size,8,none⟩) (by have:=HS2.out;omega)).trans hk8;have HB3:=mh (bstep mle HB2.out hb3);clear hb3))
   go_ret
   exact⟨ret_int HV.out.symm,HA.out⟩
  by_cases c0:ck=0
  ·have CZ:(ck==0)=true:=by rw[c0];rfl
   subst c0
   cases bb
   ·have HV:=mh (O4.out G.out rfl rfl (.inl rfl))
    go_enter Tryz.func32,Tryz.ntmps32
    go_wp2_with (first|(go_at_call 52;(with_reducible refine cmo (NM.out _) ?_);rintro e w1 ⟨rfl,rfl⟩)|(go_at_call 53;(with_reducible refine cmo CK.out ?_);rintro e w2 ⟨rfl,hb2⟩;have HS2:=mh (show w.heap.size<w2.heap.size from nll HA0.out hb2.size);have BK1:=mh (BK.out _ (bstep mle HA.out hb2));have HB2:=mh (bstep mle HA.out hb2);have hk0:=mcell hb2 0;have hk1:=mcell hb2 1;have hk2:=mcell hb2 2;have hk3:=mcell hb2 3;have hk4:=mcell hb2 4;have hk5:=mcell hb2 5;have hk6:=mcell hb2 6;have hk7:=mcell hb2 7;have hk8:=mcell hb2 8;have hk9:=mcell hb2 9;clear hb2)|(go_at_call 54;(with_reducible refine cmo BK1.out ?_);rintro e w3 ⟨rfl,hb3⟩;have hj0:=(hb3.cell (p:=⟨w.heap.size,0,none⟩) (by have:=HS2.out;omega)).trans hk0;have hj8:=(hb3.cell (p:=⟨w.heap.size,8,none⟩) (by have:=HS2.out;omega)).trans hk8;have HB3:=mh (bstep mle HB2.out hb3);clear hb3))
    go_ret
    exact⟨ret_int HV.out.symm,HB3.out⟩
   by_cases e1:ex<0
   ·have HV:=mh (O4.out G.out rfl rfl (.inr (.inl e1)))
    go_enter Tryz.func32,Tryz.ntmps32
    go_wp2_with (first|(go_at_call 52;(with_reducible refine cmo (NM.out _) ?_);rintro e w1 ⟨rfl,rfl⟩)|(go_at_call 53;(with_reducible refine cmo CK.out ?_);rintro e w2 ⟨rfl,hb2⟩;have HS2:=mh (show w.heap.size<w2.heap.size from nll HA0.out hb2.size);have BK1:=mh (BK.out _ (bstep mle HA.out hb2));have HB2:=mh (bstep mle HA.out hb2);have hk0:=mcell hb2 0;have hk1:=mcell hb2 1;have hk2:=mcell hb2 2;have hk3:=mcell hb2 3;have hk4:=mcell hb2 4;have hk5:=mcell hb2 5;have hk6:=mcell hb2 6;have hk7:=mcell hb2 7;have hk8:=mcell hb2 8;have hk9:=mcell hb2 9;clear hb2)|(go_at_call 54;(with_reducible refine cmo BK1.out ?_);rintro e w3 ⟨rfl,hb3⟩;have hj0:=(hb3.cell (p:=⟨w.heap.size,0,none⟩) (by have:=HS2.out;omega)).trans hk0;have hj8:=(hb3.cell (p:=⟨w.heap.size,8,none⟩) (by have:=HS2.out;omega)).trans hk8;have HB3:=mh (bstep mle HB2.out hb3);clear hb3))
    go_ret
    exact⟨ret_int HV.out.symm,HB3.out⟩
   by_cases e2:65536≤ex
   ·have HV:=mh (O4.out G.out rfl rfl (.inr (.inr (.inl e2))))
    go_enter Tryz.func32,Tryz.ntmps32
    go_wp2_with (first|(go_at_call 52;(with_reducible refine cmo (NM.out _) ?_);rintro e w1 ⟨rfl,rfl⟩)|(go_at_call 53;(with_reducible refine cmo CK.out ?_);rintro e w2 ⟨rfl,hb2⟩;have HS2:=mh (show w.heap.size<w2.heap.size from nll HA0.out hb2.size);have BK1:=mh (BK.out _ (bstep mle HA.out hb2));have HB2:=mh (bstep mle HA.out hb2);have hk0:=mcell hb2 0;have hk1:=mcell hb2 1;have hk2:=mcell hb2 2;have hk3:=mcell hb2 3;have hk4:=mcell hb2 4;have hk5:=mcell hb2 5;have hk6:=mcell hb2 6;have hk7:=mcell hb2 7;have hk8:=mcell hb2 8;have hk9:=mcell hb2 9;clear hb2)|(go_at_call 54;(with_reducible refine cmo BK1.out ?_);rintro e w3 ⟨rfl,hb3⟩;have hj0:=(hb3.cell (p:=⟨w.heap.size,0,none⟩) (by have:=HS2.out;omega)).trans hk0;have hj8:=(hb3.cell (p:=⟨w.heap.size,8,none⟩) (by have:=HS2.out;omega)).trans hk8;have HB3:=mh (bstep mle HB2.out hb3);clear hb3))
    go_ret
    exact⟨ret_int HV.out.symm,HB3.out⟩
   cases bit
   ·have HV:=mh (O5.out G.out rfl rfl (by simp;omega))
    go_enter Tryz.func32,Tryz.ntmps32
    go_wp2_with (first|(go_at_call 52;(with_reducible refine cmo (NM.out _) ?_);rintro e w1 ⟨rfl,rfl⟩)|(go_at_call 53;(with_reducible refine cmo CK.out ?_);rintro e w2 ⟨rfl,hb2⟩;have HS2:=mh (show w.heap.size<w2.heap.size from nll HA0.out hb2.size);have BK1:=mh (BK.out _ (bstep mle HA.out hb2));have HB2:=mh (bstep mle HA.out hb2);have hk0:=mcell hb2 0;have hk1:=mcell hb2 1;have hk2:=mcell hb2 2;have hk3:=mcell hb2 3;have hk4:=mcell hb2 4;have hk5:=mcell hb2 5;have hk6:=mcell hb2 6;have hk7:=mcell hb2 7;have hk8:=mcell hb2 8;have hk9:=mcell hb2 9;clear hb2)|(go_at_call 54;(with_reducible refine cmo BK1.out ?_);rintro e w3 ⟨rfl,hb3⟩;have hj0:=(hb3.cell (p:=⟨w.heap.size,0,none⟩) (by have:=HS2.out;omega)).trans hk0;have hj8:=(hb3.cell (p:=⟨w.heap.size,8,none⟩) (by have:=HS2.out;omega)).trans hk8;have HB3:=mh (bstep mle HB2.out hb3);clear hb3))
    go_ret
    exact⟨ret_int HV.out.symm,HB3.out⟩
   ·have HV:=mh (O4.out G.out rfl rfl (.inr (.inr (.inr rfl))))
    go_enter Tryz.func32,Tryz.ntmps32
    go_wp2_with (first|(go_at_call 52;(with_reducible refine cmo (NM.out _) ?_);rintro e w1 ⟨rfl,rfl⟩)|(go_at_call 53;(with_reducible refine cmo CK.out ?_);rintro e w2 ⟨rfl,hb2⟩;have HS2:=mh (show w.heap.size<w2.heap.size from nll HA0.out hb2.size);have BK1:=mh (BK.out _ (bstep mle HA.out hb2));have HB2:=mh (bstep mle HA.out hb2);have hk0:=mcell hb2 0;have hk1:=mcell hb2 1;have hk2:=mcell hb2 2;have hk3:=mcell hb2 3;have hk4:=mcell hb2 4;have hk5:=mcell hb2 5;have hk6:=mcell hb2 6;have hk7:=mcell hb2 7;have hk8:=mcell hb2 8;have hk9:=mcell hb2 9;clear hb2)|(go_at_call 54;(with_reducible refine cmo BK1.out ?_);rintro e w3 ⟨rfl,hb3⟩;have hj0:=(hb3.cell (p:=⟨w.heap.size,0,none⟩) (by have:=HS2.out;omega)).trans hk0;have hj8:=(hb3.cell (p:=⟨w.heap.size,8,none⟩) (by have:=HS2.out;omega)).trans hk8;have HB3:=mh (bstep mle HB2.out hb3);clear hb3))
    go_ret
    exact⟨ret_int HV.out.symm,HB3.out⟩
  ·have HV:=mh (O3.out G.out rfl c0)
   go_enter Tryz.func32,Tryz.ntmps32
   go_wp2_with (first|(go_at_call 52;(with_reducible refine cmo (NM.out _) ?_);rintro e w1 ⟨rfl,rfl⟩)|(go_at_call 53;(with_reducible refine cmo CK.out ?_);rintro e w2 ⟨rfl,hb2⟩;have HS2:=mh (show w.heap.size<w2.heap.size from nll HA0.out hb2.size);have BK1:=mh (BK.out _ (bstep mle HA.out hb2));have HB2:=mh (bstep mle HA.out hb2);have hk0:=mcell hb2 0;have hk1:=mcell hb2 1;have hk2:=mcell hb2 2;have hk3:=mcell hb2 3;have hk4:=mcell hb2 4;have hk5:=mcell hb2 5;have hk6:=mcell hb2 6;have hk7:=mcell hb2 7;have hk8:=mcell hb2 8;have hk9:=mcell hb2 9;clear hb2)|(go_at_call 54;(with_reducible refine cmo BK1.out ?_);rintro e w3 ⟨rfl,hb3⟩;have hj0:=(hb3.cell (p:=⟨w.heap.size,0,none⟩) (by have:=HS2.out;omega)).trans hk0;have hj8:=(hb3.cell (p:=⟨w.heap.size,8,none⟩) (by have:=HS2.out;omega)).trans hk8;have HB3:=mh (bstep mle HB2.out hb3);clear hb3))
   go_ret
   exact⟨ret_int HV.out.symm,HB2.out⟩
end Go.Proofs.YtbcmabolkkfgfaaGreatDoor
