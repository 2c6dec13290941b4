/- Packed. -/
import Derived.Test.YtefcalgjnkigjaaGreatL4
set_option maxRecDepth 100000
set_option maxHeartbeats 4000000
open Go.Value renaming int → I
open Go.IntKind renaming i64 → O
namespace Go.Proofs.YtefcalgjnkigjaaGreat
open Go.RowKit Te Sc
theorem jDA {L:List Sch}{n:Int}(h:yE L n<0):(L.find? fun x=>x.num==n)=none:=by
 unfold yE at h
 cases e:L.findIdx? fun s=>s.num==n with
 | none =>
   rw[List.find?_eq_none];intro x hx;rw[List.findIdx?_eq_none_iff.1 e x hx]
   decide
 | some k=>rw[e]at h;simp only at h;omega
theorem jPA {L:List Sch}{n:Int}{k:Nat}(h:yE L n=(k:Int)):∃hk:k<L.length,(L.find? fun x=>x.num==n)=some L[k]:=by
 unfold yE at h
 cases e:L.findIdx? fun s=>s.num==n with
 | none=>rw[e]at h;simp only at h;omega
 | some j =>
   rw[e]at h;simp only at h;obtain rfl:j=k:=by omega
   obtain⟨hk,h1,h2⟩:=List.findIdx?_eq_some_iff_getElem.1 e;refine⟨hk,List.find?_eq_some_iff_getElem.2 ⟨h1,j,hk,rfl,fun i hi=>?_⟩⟩;have:=h2 i hi
   simpa using this
theorem sC (L:List Sch)(n:Int) : -1≤yE L n∧yE L n<(L.length:Int):=idx_ge _ L
theorem rW {L:List Sch}{s:Sch}{k:Nat}(hk:k<16)(h:uW L s k=false):zP L s=false:=by
 unfold zP;rw[Bool.eq_false_iff];intro h2;rw[List.all_eq_true]at h2;rw[h2 k (List.mem_range.2 hk)]at h
 cases h
theorem eP {L:List Sch}{s:Sch}{k:Nat}(h:zH s.ex k=false):uW L s k=true:=by unfold uW;rw[if_pos h]
theorem eK {L:List Sch}{s:Sch}{k:Nat}(h:zH s.ex k=true)(h2:yE L k<0):uW L s k=false:=by
 unfold uW;rw[if_neg (by rw[h];decide),jDA h2]
theorem eU {L:List Sch}{s:Sch}{k j:Nat}(h:zH s.ex k=true)(h2:yE L k=(j:Int))(hj:j<L.length):uW L s k=zH L[j].ex s.num:=by
 obtain⟨_,e⟩:=jPA h2;unfold uW;rw[if_neg (by rw[h];decide),e]
theorem xW (f:Nat→Bool)(k:Nat):(List.range (k+1)).all f=((List.range k).all f&&f k):=by
 rw[List.range_succ,List.all_append];simp
theorem zZA {Q:Nat→Prop}(d:Nat)(p:Option Addr)(L:List Sch)(cap:Nat)(r:RSx)(s:Sch)(w:World)(h:xY Q w d p L)(hn:r.num=s.num)(he:r.ex=s.ex)(h0:0≤r.num)(h15:r.num≤15) :
  Calls Tryz.prog 87 #[.slice p L.length cap,.agg #[I O r.num,.string r.nm,I O r.t.op,I O r.t.num,I O r.t.more,.slice r.t.p r.t.n r.t.c,.slice r.bp r.bn r.bc,I O r.least,I O r.ex,.bool r.needs]] w (yC (zP L s) w):=by
 have hlen:=h.len;have H:=mh h;have HN:=mh hn;have HE:=mh he;clear h hn he;obtain⟨num,nm,⟨o,tn,tm,tp,tl,tc⟩,bp,bn,bc,least,ex,needs⟩:=r;simp only at h0 h15 HN HE;have HA:=mh (show Below w.heap.size w (w.alloc (.cells #[I O num,.string nm,I O o,I O tn,I O tm,.slice tp tl tc,.slice bp bn bc,I O least,I O ex,.bool needs] 81)) from(brf _ _).alloc mle _);have HAs:=mh (show(w.alloc (.cells #[I O num,.string nm,I O o,I O tn,I O tm,.slice tp tl tc,.slice bp bn bc,I O least,I O ex,.bool needs] 81)).heap.size=w.heap.size+1 by simp)
 go_enter Tryz.func87,Tryz.ntmps87
 go_wp2
 go_loopw [7] (fun i wr=>∃k:Nat,k≤16∧i=I O k∧(List.range k).all (uW L s)=true∧Below (w.heap.size+1) (w.alloc (.cells #[I O num,.string nm,I O o,I O tn,I O tm,.slice tp tl tc,.slice bp bn bc,I O least,I O ex,.bool needs] 81)) wr) (fun i _=>16 - (intOf i).toNat)
 case atStart=>exact⟨0,Nat.zero_le _,rfl,rfl,brf _ _⟩
 case round =>
  obtain⟨wo,rfl⟩:∃wo:World,wo=wr:=⟨_,rfl⟩;obtain⟨k,hk,rfl,ha,hb⟩:=hrel;have HAL:=mh ha;have HB:=mh hb;have HBW:=mh (show Below w.heap.size w wo from HA.trans (hb.mono (by omega)));have hk0:=qJ hb 0;have hk8:=qJ hb 8;have HSZ:=mh (show w.heap.size+1≤wo.heap.size from HAs.out▸hb.size);obtain⟨i,ei⟩:∃i:Int,(k:Int)=i:=⟨_,rfl⟩;have EI:=mh ei;have hi0:(0:Int)≤i:=by omega
  rw[ei]
  by_cases hlt:k<16
  ·have hi1:i<16:=by omega
   cases eb:zH ex i
   ·have EB:(bits BinOp.and IntKind.i64 (ex / 2 ^ i.toNat) 1==0)=true:=by rw[vJ,eb];rfl
    have HM:=mh (show(List.range (k+1)).all (uW L s)=true by rw[xW,HAL.out,eP (by rw[← HE.out,EI.out];exact eb)];rfl);clear ha hb eb ei
    go_wp2
    go_roundw
    case rel=>exact⟨k+1,by omega,by rw[← EI.out];go_num,HM.out,HB.out⟩
    case measure=>rw[← EI.out];simp[intOf];omega
   ·have EB:(bits BinOp.and IntKind.i64 (ex / 2 ^ i.toNat) 1==0)=false:=by rw[vJ,eb];rfl
    have EBH:=mh (show zH s.ex k=true by rw[← HE.out,EI.out];exact eb);have CF:=mh (jMA d p L cap i wo (H.below HBW));have FG:=mh (sC L i);obtain⟨f,ef⟩:∃f,yE L i=f:=⟨_,rfl⟩;rw[ef]at CF FG;have EF:=mh (show yE L k=f by rw[EI.out];exact ef);clear ha hb eb ei ef
    rcases Int.lt_or_le f 0 with hf|hf
    ·have HV:=mh (rW hlt (eK EBH (by rw[EF.out];exact hf)))
     have d1:decide (f<0)=true:=dqt hf;clear hf
     go_wp2_with (first|(go_at_call 124;(with_reducible refine cmo CF.out ?_);rintro e w1 ⟨rfl,hb1⟩;have HB1:=mh (qZ mle HBW hb1);clear hb1))
     go_quiet (fail)
     go_wp2
     go_ret
     exact⟨qT HV.symm,HB1.trans ((qQ _ _).mono HB1.size)⟩
    ·have d1:decide (f<0)=false:=by rw[decide_eq_false_iff_not];omega
     obtain⟨j,rfl⟩:=Int.eq_ofNat_of_zero_le hf;have hj:j<L.length:=by have:=FG.out;omega
     have MS:=mh (eU EBH EF hj);obtain⟨b,off,x,rfl,hbl,hC,hv⟩:=(H.below HBW).at hj;have C8:=mh hC.c8;have hxe:=hv.ex;have hj0' : (0:Int)≤(j:Int):=inn _;have hj1' : (j:Int)<(L.length:Int):=by omega
     obtain⟨xe,exe⟩:∃xe,x.ex=xe:=⟨_,rfl⟩;rw[exe]at C8 hxe;have EN:=HN.out
     cases eb2:zH xe num
     ·have EB2:(bits BinOp.and IntKind.i64 (xe / 2 ^ num.toNat) 1==0)=true:=by rw[vJ,eb2];rfl
      have HV:=mh (rW hlt (by rw[MS.out,← hxe,← EN];exact eb2));clear hf hC hv eb2 hxe exe EN
      go_wp2_with (first|(go_at_call 124;(with_reducible refine cmo CF.out ?_);rintro e w1 ⟨rfl,hb1⟩;have HB1:=mh (qZ mle HBW hb1);have HB2:=mh (show Below (w.heap.size+1) (w.alloc (.cells #[I O num,.string nm,I O o,I O tn,I O tm,.slice tp tl tc,.slice bp bn bc,I O least,I O ex,.bool needs] 81)) w1 from HB.trans (hb1.mono HSZ));have hj0:=(hb1.cell (p:=⟨w.heap.size,0,none⟩) HSZ).trans hk0;have hx8:=(hb1.cell (p:=⟨b,off+j*10+8,none⟩) hbl).trans C8.out;clear hb1))
      go_quiet (fail)
      go_wp2
      go_ret
      exact⟨qT HV.symm,HB1.trans ((qQ _ _).mono HB1.size)⟩
     ·have EB2:(bits BinOp.and IntKind.i64 (xe / 2 ^ num.toNat) 1==0)=false:=by rw[vJ,eb2];rfl
      have HM:=mh (show(List.range (k+1)).all (uW L s)=true by rw[xW,HAL.out,MS.out,← hxe,← EN,eb2];rfl);clear hf hC hv eb2 hxe exe EN
      go_wp2_with (first|(go_at_call 124;(with_reducible refine cmo CF.out ?_);rintro e w1 ⟨rfl,hb1⟩;have HB1:=mh (qZ mle HBW hb1);have HB2:=mh (show Below (w.heap.size+1) (w.alloc (.cells #[I O num,.string nm,I O o,I O tn,I O tm,.slice tp tl tc,.slice bp bn bc,I O least,I O ex,.bool needs] 81)) w1 from HB.trans (hb1.mono HSZ));have hj0:=(hb1.cell (p:=⟨w.heap.size,0,none⟩) HSZ).trans hk0;have hx8:=(hb1.cell (p:=⟨b,off+j*10+8,none⟩) hbl).trans C8.out;clear hb1))
      go_quiet (fail)
      go_wp2
      go_roundw
      case rel=>exact⟨k+1,by omega,by rw[← EI.out];go_num,HM.out,HB2.trans ((qQ _ _).mono (by have:=HB2.size;have:=HAs.out;omega))⟩
      case measure=>rw[← EI.out];simp[intOf];omega
  ·obtain rfl:k=16:=by omega
   have HV:=mh (show zP L s=true from ha);have hi1:i=16:=ei.symm;clear ha hb ei;subst hi1
   go_wp2
   go_ret
   exact⟨qT HV.symm,HBW.out⟩
def lQ (v:Int × Int) (w:World) (e:Ending) (w' : World):Prop:=e = .returned (.tuple #[I O v.1,I O v.2])∧Below w.heap.size w w'
theorem nR {L:List Sch}(h:16<L.length):jU L=(0,1):=by unfold jU;rw[if_pos h]
theorem yYA {L:List Sch}(h:¬16<L.length){k:Nat}(hk:k<L.length)(ha:∀j,j<k→xX L j=0)(h2:xX L k≠0):jU L=((k:Int),xX L k):=by
 unfold jU;rw[if_neg h,aQ hk ha h2]
theorem chk_B {L:List Sch}(h:¬16<L.length)(hA:∀j,j<L.length→xX L j=0){k:Nat}(hk:k<L.length)(ha:∀j,j<k→uY L j=0)(h2:uY L k≠0):jU L=((k:Int),17):=by
 unfold jU;rw[if_neg h,vB hA];simp only;rw[aQ hk ha h2]
theorem jVA {L:List Sch}(h:¬16<L.length)(hA:∀j,j<L.length→xX L j=0)(hB:∀j,j<L.length→uY L j=0):jU L=(-1,0):=by
 unfold jU;rw[if_neg h,vB hA];simp only;rw[vB hB]
theorem uB {L:List Sch}{k:Nat}(hk:k<L.length)(h:zY L[k]≠0):xX L k=zY L[k]:=by
 unfold xX;rw[List.getElem?_eq_getElem hk];simp only;rw[if_pos h]
theorem xL {L:List Sch}{k:Nat}(hk:k<L.length)(h:zY L[k]=0):xX L k=if yH L k L[k]=true then 6 else 0:=by
 unfold xX;rw[List.getElem?_eq_getElem hk];simp only;rw[if_neg (by omega)]
theorem yHA {L:List Sch}{k:Nat}(hk:k<L.length):uY L k=if zP L L[k]=true then 0 else 17:=by
 unfold uY;rw[List.getElem?_eq_getElem hk]
theorem uEA {s:Sch}(h:zY s=0):0≤s.num∧s.num≤15:=by
 unfold zY at h
 split at h
 ·cases h
 ·omega
theorem lT {L:List Sch}{k:Nat}(hk:k<L.length)(h:xX L k=0):0≤L[k].num∧L[k].num≤15:=by
 by_cases h1:zY L[k]=0
 ·exact uEA h1
 ·rw[uB hk h1]at h;exact absurd h h1
theorem vGA {L:List Sch}{m:Nat}{s:Sch}(hm:m<L.length)(h:s.num≤L[m].num):yH L (m+1) s=true:=by
 unfold yH;simp only;rw[List.getElem?_eq_getElem hm];simp only;rw[dqt h,Bool.true_or]
theorem vWA {L:List Sch}{m:Nat}{s:Sch}(hm:m<L.length)(h:¬s.num≤L[m].num):yH L (m+1) s=(L.take (m+1)).any (kT s.nm):=by
 unfold yH;simp only;rw[List.getElem?_eq_getElem hm];simp only;rw[dqf h,Bool.false_or];rfl
theorem yJA {L:List Sch}{s:Sch}:yH L 0 s=(L.take 0).any (kT s.nm):=by
 unfold yH;simp
theorem pV {P:Program}{id:Nat}{Q:Exit→Act→World→Prop}{a:Act}{w:World}{l:List Oper}(n:Nat)(hm:P.follows .mixedOrders=true)(hB:Region.lexTailB .any l.toArray n=true)
  (h:∀R:Act→Prop,(∀a', wpList P l.toArray Q (l.drop n) a' w.drew→R a')→wpStill P l.toArray w.drew R (l.take n) a):(Code.region id l.toArray true).wp P Q a w:=yPA n hm hB (h _ fun _ k=>k)
theorem rA {P:Program}{ops:Array Oper}{w:World}{Q:Act→Prop}{a:Act}{o:Oper}{rest:List Oper}(h0:Region.wanted o (yielded ops a.tmps)=false)(h:wpStill P ops w Q rest (a.put o.dst undef)):wpStill P ops w Q (o::rest) a:=by
 rw[wpStill,if_neg (by rw[h0];simp)];exact h
theorem lU {Q:Nat→Prop}(d:Nat)(p:Option Addr)(L:List Sch)(cap:Nat)(w:World)(h:xY Q w d p L)(hz:∀s∈L,s.nm.size≤9223372036854775807)(hcap:L.length≤cap) :
  Calls Tryz.prog 47 #[.slice p L.length cap] w (lQ (jU L) w):=by
 have hlen:=h.len;have H:=mh h;have HZ:=mh hz;clear h hz;obtain⟨cv,ecv⟩:∃v,jU L=v:=⟨_,rfl⟩;rw[ecv];have ECV:=mh ecv;clear ecv
 by_cases h16:16<L.length
 ·have HV:=mh (show cv=(0,1) from ECV.out▸nR h16)
  go_enter Tryz.func47,Tryz.ntmps47
  go_wp2
  go_ret2
  exact⟨by rw[HV.out];rfl,brf _ _⟩
 go_enter Tryz.func47,Tryz.ntmps47
 go_wp2
 go_loopw [14] (fun i wr=>∃k:Nat,k≤L.length∧i=I O k∧(∀j,j<k→xX L j=0)∧Below w.heap.size w wr) (fun i _=>L.length - (intOf i).toNat)
 case atStart=>exact⟨0,Nat.zero_le _,rfl,fun j hj=>absurd hj (Nat.not_lt_zero j),brf _ _⟩
 case round =>
  obtain⟨wo,rfl⟩:∃wo:World,wo=wr:=⟨_,rfl⟩;obtain⟨k,hk,rfl,ha,hb⟩:=hrel;have HAL:=mh ha;have HB:=mh hb;have hk0:(0:Int)≤(k:Int):=inn _
  by_cases hlt:k<L.length
  ·have hk1:(k:Int)<(L.length:Int):=by omega
   obtain⟨b,off,r,rfl,hbl,hC,hv⟩:=(H.below hb).at hlt;have CV:=mh (tN d r L[k] _ (hv.below (qK mle (brf _ _) (.cells (zN r).toArray 81))) (by rw[hv.nm];exact HZ _ (List.getElem_mem hlt)));have HQ:=mh hv;have RN:=mh hv.nm;have RU:=mh hv.num;obtain⟨c0,c1,c2,c3,c4,c5,c6,c7,c8,c9⟩:=hC;obtain⟨num,nm,⟨o,tn,tm,tp,tl,tc⟩,bp,bn,bc,least,ex,needs⟩:=r;simp only at c0 c1 c2 c3 c4 c5 c6 c7 c8 c9 RN RU;simp only[zN]at CV;have HBA:=mh (qK mle HB (.cells #[I O num,.string nm,I O o,I O tn,I O tm,.slice tp tl tc,.slice bp bn bc,I O least,I O ex,.bool needs] 81));obtain⟨v,ev⟩:∃v,zY L[k]=v:=⟨_,rfl⟩;have EV:=mh ev;rw[ev]at CV;clear ha hb hv ev
   by_cases hv0:v=0
   ·subst hv0
    have E6:=mh (fun (h:yH L k L[k]=true)=>(show cv=((k:Int),6) from by rw[← ECV.out,yYA h16 hlt HAL.out (by rw[xL hlt EV.out,if_pos h];decide),xL hlt EV.out,if_pos h]));have E0:=mh (fun (h:yH L k L[k]=false)=>(show xX L k=0 from by rw[xL hlt EV.out,if_neg (by rw[h];decide)]))
    have CN:=mh (fun (W:World) (hW:Below w.heap.size w W) (hc1:W.cell? ⟨wo.heap.size,1,none⟩=some (.string nm)) (hl1:wo.heap.size<W.heap.size)=>(show Calls Tryz.prog 85 #[.slice (some ⟨b,off,none⟩) k cap,.func (.func 86) #[] #[.pointer (some ⟨wo.heap.size,0,none⟩)]] W (yC ((L.take k).any (kT nm)) W) from by
     have:=dN d (some ⟨b,off,none⟩) (L.take k) cap wo.heap.size nm W ((H.below hW).take k) hc1 hl1;rw[List.length_take,Nat.min_eq_left hk]at this
     exact this))
    rcases Nat.eq_zero_or_pos k with hk00|hkp
    ·subst hk00
     have TW:=mh (show yH L 0 L[0]=(L.take 0).any (kT nm) from by rw[RN.out];exact yJA);have TF:(L.take 0).any (kT nm)=false:=by simp
     rw[TF]at CN TW;clear TF;have hcz:(0:Int)≤(cap:Int):=inn _
     ·have HV:=mh (E0 TW)
      rw[Nat.zero_mul,Nat.add_zero]at c0 c1 c2 c3 c4 c5 c6 c7 c8 c9;rw[show((0:Nat):Int)=0 from rfl]
      go_wp2_with (first|(go_at_call 84;(with_reducible refine cmo CV.out ?_);rintro e w1 ⟨rfl,hb1⟩;have HB1:=mh (qZ mle HBA hb1);have v0:=qJ hb1 0;have v1:=qJ hb1 1;have v2:=qJ hb1 2;have v3:=qJ hb1 3;have v4:=qJ hb1 4;have v5:=qJ hb1 5;have v6:=qJ hb1 6;have v7:=qJ hb1 7;have v8:=qJ hb1 8;have v9:=qJ hb1 9;have HD1:=mh (show Below w.heap.size w w1.drew from HB1.drew);have HS1:=mh (show wo.heap.size<w1.heap.size from nll (by simp) hb1.size);clear hb1))
      refine pV 18 (by kernel_rfl) (by kernel_rfl) (fun R hR=>?_)
      simp only[List.take_succ_cons,List.take_zero,List.drop_succ_cons,List.drop_zero]at hR ⊢
      still_step
      still_step
      still_step
      iterate 9 ((with_reducible refine rA (by kernel_rfl) ?_);simp only[Act.put,mnA,mnB,mnC])
      still_step
      still_step
      still_step
      still_step
      still_step
      still_step
      with_reducible refine wpStill_nil ?_
      with_reducible refine hR _ ?_
      clear hR R;have CW:=mh (CN w1.drew HD1 v1 HS1)
      go_wp2_with (first|(go_at_call 85;(with_reducible refine cmo CW.out ?_);rintro e w2 ⟨rfl,hb2⟩;have HB2:=mh (HD1.trans (hb2.mono HD1.size));clear hb2))
      go_roundw
      case rel=>exact⟨1,by omega,by go_num,fun j hj=>by
       by_cases e:j=0
       ·subst e;exact HV.out
       ·omega,HB2.out⟩
      case measure=>simp[intOf];omega
    ·obtain⟨m,rfl⟩:∃m,k=m+1:=⟨k - 1,by omega⟩
     obtain⟨b', off', y,ey, -,hCy,hy⟩:=(H.below HB).at (show m<L.length by omega)
     cases ey
     have Y0:=mh hCy.c0;have YN:=mh hy.num;obtain⟨pn,epn⟩:∃x,y.num=x:=⟨_,rfl⟩;rw[epn]at Y0 YN;clear hCy hy epn;obtain⟨i,ei⟩:∃i:Int,((m+1:Nat):Int)=i:=⟨_,rfl⟩;have EI:=mh ei
     by_cases hle:num≤pn
     ·have HV:=mh (E6 (vGA (by omega) (by rw[← RU.out,← YN.out];exact hle)))
      have d1:decide (num≤pn)=true:=dqt hle;clear hle ei
      go_wp2_with (first|(go_at_call 84;(with_reducible refine cmo CV.out ?_);rintro e w1 ⟨rfl,hb1⟩;have HB1:=mh (qZ mle HBA hb1);have v0:=qJ hb1 0;have v1:=qJ hb1 1;have v2:=qJ hb1 2;have v3:=qJ hb1 3;have v4:=qJ hb1 4;have v5:=qJ hb1 5;have v6:=qJ hb1 6;have v7:=qJ hb1 7;have v8:=qJ hb1 8;have v9:=qJ hb1 9;have HD1:=mh (show Below w.heap.size w w1.drew from HB1.drew);have HS1:=mh (show wo.heap.size<w1.heap.size from nll (by simp) hb1.size);have hy0:=(hb1.cell (p:=⟨b,off+m*10,none⟩) (show b<(wo.alloc _).heap.size by simp;omega)).trans ((World.cell?_alloc_past _ _ _ hbl).trans Y0);clear hb1))
      go_quiet (fail)
      go_wp2
      go_ret2
      exact⟨by rw[HV.out];rfl,HB1.trans ((qQ _ _).mono HB1.size)⟩
     ·have d1:decide (num≤pn)=false:=dqf hle
      have TW:=mh (show yH L (m+1) L[m+1]=(L.take (m+1)).any (kT nm) from by rw[RN.out];exact vWA (by omega) (by rw[← RU.out,← YN.out];exact hle));obtain⟨z,ez⟩:∃z,(L.take (m+1)).any (kT nm)=z:=⟨_,rfl⟩;rw[ez]at CN TW;obtain⟨j,ej⟩:∃j:Int,(m:Int)=j:=⟨_,rfl⟩;have hi0:0<i:=by omega
      have hi1:i<(L.length:Int):=by omega
      have hic:i≤(cap:Int):=by omega
      have hit:i.toNat=m+1:=by omega
      have hij:i - 1=j:=by omega
      have hj0:0≤j:=by omega
      have hj1:j<(L.length:Int):=by omega
      have hjt:j.toNat=m:=by omega
      have hw:IntKind.i64.wrap (i - 1)=j:=by rw[hij,IntKind.wrap_i64];omega
      rw[ei];rw[ei]at hk0 hk1;have hwj:IntKind.i64.wrap j=j:=by rw[IntKind.wrap_i64];omega
      clear hle ei ez ej hij
      cases z
      ·have HV:=mh (E0 TW)
       go_wp2_with (first|(go_at_call 84;(with_reducible refine cmo CV.out ?_);rintro e w1 ⟨rfl,hb1⟩;have HB1:=mh (qZ mle HBA hb1);have v0:=qJ hb1 0;have v1:=qJ hb1 1;have v2:=qJ hb1 2;have v3:=qJ hb1 3;have v4:=qJ hb1 4;have v5:=qJ hb1 5;have v6:=qJ hb1 6;have v7:=qJ hb1 7;have v8:=qJ hb1 8;have v9:=qJ hb1 9;have HD1:=mh (show Below w.heap.size w w1.drew from HB1.drew);have HS1:=mh (show wo.heap.size<w1.heap.size from nll (by simp) hb1.size);have hy0:=(hb1.cell (p:=⟨b,off+m*10,none⟩) (show b<(wo.alloc _).heap.size by simp;omega)).trans ((World.cell?_alloc_past _ _ _ hbl).trans Y0);clear hb1))
       refine pV 18 (by kernel_rfl) (by kernel_rfl) (fun R hR=>?_)
       simp only[List.take_succ_cons,List.take_zero,List.drop_succ_cons,List.drop_zero]at hR ⊢
       iterate 18 still_step
       with_reducible refine wpStill_nil ?_
       with_reducible refine hR _ ?_
       clear hR R;have CW:=mh (CN w1.drew HD1 v1 HS1)
       go_wp2_with (first|(go_at_call 85;(with_reducible refine cmo CW.out ?_);rintro e w2 ⟨rfl,hb2⟩;have HB2:=mh (HD1.trans (hb2.mono HD1.size));clear hb2))
       go_roundw
       case rel=>exact⟨m+1+1,by omega,by rw[← EI.out];go_num,fun j hj=>by
        by_cases e:j=m+1
        ·subst e;exact HV.out
        ·exact HAL j (by omega),HB2.out⟩
       case measure=>rw[← EI.out];simp[intOf];omega
      ·have HV:=mh (E6 TW)
       go_wp2_with (first|(go_at_call 84;(with_reducible refine cmo CV.out ?_);rintro e w1 ⟨rfl,hb1⟩;have HB1:=mh (qZ mle HBA hb1);have v0:=qJ hb1 0;have v1:=qJ hb1 1;have v2:=qJ hb1 2;have v3:=qJ hb1 3;have v4:=qJ hb1 4;have v5:=qJ hb1 5;have v6:=qJ hb1 6;have v7:=qJ hb1 7;have v8:=qJ hb1 8;have v9:=qJ hb1 9;have HD1:=mh (show Below w.heap.size w w1.drew from HB1.drew);have HS1:=mh (show wo.heap.size<w1.heap.size from nll (by simp) hb1.size);have hy0:=(hb1.cell (p:=⟨b,off+m*10,none⟩) (show b<(wo.alloc _).heap.size by simp;omega)).trans ((World.cell?_alloc_past _ _ _ hbl).trans Y0);clear hb1))
       refine pV 18 (by kernel_rfl) (by kernel_rfl) (fun R hR=>?_)
       simp only[List.take_succ_cons,List.take_zero,List.drop_succ_cons,List.drop_zero]at hR ⊢
       iterate 18 still_step
       with_reducible refine wpStill_nil ?_
       with_reducible refine hR _ ?_
       clear hR R;have CW:=mh (CN w1.drew HD1 v1 HS1)
       go_wp2_with (first|(go_at_call 85;(with_reducible refine cmo CW.out ?_);rintro e w2 ⟨rfl,hb2⟩;have HB2:=mh (HD1.trans (hb2.mono HD1.size));clear hb2))
       go_ret2
       exact⟨by rw[HV.out,EI.out];rfl,HB2.out⟩
   ·have HV:=mh (show cv=((k:Int),v) from by rw[← ECV.out,yYA h16 hlt HAL.out (by rw[uB hlt (by rw[EV.out];exact hv0),EV.out];exact hv0),uB hlt (by rw[EV.out];exact hv0),EV.out])
    go_wp2_with (first|(go_at_call 84;(with_reducible refine cmo CV.out ?_);rintro e w1 ⟨rfl,hb1⟩;have HB1:=mh (qZ mle HBA hb1);have v0:=qJ hb1 0;have v1:=qJ hb1 1;have v2:=qJ hb1 2;have v3:=qJ hb1 3;have v4:=qJ hb1 4;have v5:=qJ hb1 5;have v6:=qJ hb1 6;have v7:=qJ hb1 7;have v8:=qJ hb1 8;have v9:=qJ hb1 9;clear hb1))
    go_ret2
    exact⟨by rw[HV.out];rfl,HB1.out⟩
  ·obtain rfl:k=L.length:=by omega
   clear ha hb;have HBO:=HB
   go_wp2
   go_loopw [49] (fun i wr=>∃k:Nat,k≤L.length∧i=I O k∧(∀j,j<k→uY L j=0)∧Below w.heap.size w wr) (fun i _=>L.length - (intOf i).toNat)
   case atStart=>exact⟨0,Nat.zero_le _,rfl,fun j hj=>absurd hj (Nat.not_lt_zero j),HBO.out⟩
   case round =>
    obtain⟨wp,rfl⟩:∃wp:World,wp=wr:=⟨_,rfl⟩;obtain⟨k,hk,rfl,ha,hb⟩:=hrel;have HBL:=mh ha;have HC:=mh hb;have hk0' : (0:Int)≤(k:Int):=inn _
    by_cases hlt:k<L.length
    ·have hk1:(k:Int)<(L.length:Int):=by omega
     obtain⟨b,off,r,rfl,hbl,hCc,hv⟩:=(H.below hb).at hlt;have HN:=lT hlt (HAL k hlt);have CV:=mh (zZA d (some ⟨b,off,none⟩) L cap r L[k] _ (H.below (qK mle hb (.cells (zN r).toArray 81))) hv.num hv.ex (by rw[hv.num];exact HN.1) (by rw[hv.num];exact HN.2));obtain⟨c0,c1,c2,c3,c4,c5,c6,c7,c8,c9⟩:=hCc;obtain⟨num,nm,⟨o,tn,tm,tp,tl,tc⟩,bp,bn,bc,least,ex,needs⟩:=r;simp only at c0 c1 c2 c3 c4 c5 c6 c7 c8 c9;simp only[zN]at CV;have HBA:=mh (qK mle HC (.cells #[I O num,.string nm,I O o,I O tn,I O tm,.slice tp tl tc,.slice bp bn bc,I O least,I O ex,.bool needs] 81));have ER:=mh (yHA hlt);obtain⟨mb,em⟩:∃v,zP L L[k]=v:=⟨_,rfl⟩;rw[em]at CV ER;clear ha hb hv em HN
     cases mb
     ·have HV:=mh (show cv=((k:Int),17) from by rw[← ECV.out,chk_B h16 HAL.out hlt HBL.out (by rw[ER.out];decide)])
      go_wp2_with (first|(go_at_call 87;(with_reducible refine cmo CV.out ?_);rintro e w1 ⟨rfl,hb1⟩;have HB1:=mh (qZ mle HBA hb1);clear hb1))
      go_ret2
      exact⟨by rw[HV.out];rfl,HB1.out⟩
     ·go_wp2_with (first|(go_at_call 87;(with_reducible refine cmo CV.out ?_);rintro e w1 ⟨rfl,hb1⟩;have HB1:=mh (qZ mle HBA hb1);clear hb1))
      go_roundw
      case rel=>exact⟨k+1,by omega,by go_num,fun j hj=>by
       by_cases e:j=k
       ·subst e;rw[ER.out];rfl
       ·exact HBL j (by omega),HB1.out⟩
      case measure=>simp[intOf];omega
    ·obtain rfl:k=L.length:=by omega
     have HV:=mh (show cv=(-1,0) from ECV.out▸jVA h16 HAL HBL);clear ha hb
     go_wp2
     go_ret2
     exact⟨by rw[HV.out];rfl,HC.out⟩
def tw (L:List Sch) (i:Nat) (s:Sch) (j:Nat):Bool:=match L[j]? with|some x=>kT s.nm x||(decide (j+1=i)&&decide (s.num≤x.num))|none=>false
theorem yDA {L:List Sch}{i j:Nat}{s:Sch}(hj:j<L.length):tw L i s j=(kT s.nm L[j]||(decide (j+1=i)&&decide (s.num≤L[j].num))):=by
 unfold tw;rw[List.getElem?_eq_getElem hj]
theorem qRA {L:List Sch}{i:Nat}{s:Sch}(hi:i≤L.length):yH L i s=true↔∃j,j<i∧tw L i s j=true:=by
 have hany:(L.take i).any (fun x=>x.nm.data.toList==s.nm.data.toList)=true↔∃j,∃h:j<L.length,j<i∧kT s.nm L[j]=true:=by
  rw[List.any_eq_true]
  constructor
  ·rintro ⟨x,hx,hp⟩
   obtain⟨j,hj,rfl⟩:=List.mem_iff_getElem.1 hx;rw[List.length_take]at hj;refine⟨j,by omega,by omega,?_⟩;rw[List.getElem_take]at hp;exact hp
  ·rintro ⟨j,hj,hji,hp⟩
   exact⟨L[j],List.mem_iff_getElem.2 ⟨j,by rw[List.length_take];omega,List.getElem_take⟩,hp⟩
 unfold yH;rw[Bool.or_eq_true,hany]
 constructor
 ·rintro (h|⟨j,hj,hji,hp⟩)
  ·cases i with
   | zero=>cases h
   | succ k =>
     simp only at h;rw[List.getElem?_eq_getElem (show k<L.length by omega)]at h;simp only at h;exact⟨k,by omega,by rw[yDA (by omega),h];simp⟩
  ·exact⟨j,hji,by rw[yDA hj,hp,Bool.true_or]⟩
 ·rintro ⟨j,hj,h⟩
  rw[yDA (show j<L.length by omega),Bool.or_eq_true]at h
  rcases h with h|h
  ·exact .inr ⟨j,by omega,hj,h⟩
  ·rw[Bool.and_eq_true,decide_eq_true_eq]at h
   obtain⟨h1,h2⟩:=h;subst h1
   left
   simp only;rw[List.getElem?_eq_getElem (show j<L.length by omega)];exact h2
theorem tF {L:List Sch}{i j:Nat}{s:Sch}(hi:i≤L.length)(hj:j<i)(h:tw L i s j=true):yH L i s=true:=(qRA hi).2 ⟨j,hj,h⟩
theorem uVA {L:List Sch}{i:Nat}{s:Sch}(hi:i≤L.length)(h:∀j,j<i→tw L i s j=false):yH L i s=false:=by
 rw[Bool.eq_false_iff];intro h2;obtain⟨j,hj,h3⟩:=(qRA hi).1 h2;rw[h j hj]at h3
 cases h3
theorem kQ {Q:Nat→Prop}(d:Nat)(p:Option Addr)(L:List Sch)(cap:Nat)(w:World)(h:xY Q w d p L)(hz:∀s∈L,s.nm.size≤9223372036854775807)(hcap:L.length≤cap)(hct:∀s∈L,count s.cond≤1099511627776) :
  Calls Tryz.prog 52 #[.slice p L.length cap] w (lQ (jU L) w):=by
 have hlen:=h.len;have H:=mh h;have HZ:=mh hz;have HCT:=mh hct;clear h hz hct;obtain⟨cv,ecv⟩:∃v,jU L=v:=⟨_,rfl⟩;rw[ecv];have ECV:=mh ecv;clear ecv
 by_cases h16:16<L.length
 ·have HV:=mh (show cv=(0,1) from ECV.out▸nR h16)
  go_enter Tryz.func52,Tryz.ntmps52
  go_wp2
  go_ret2
  exact⟨by rw[HV.out];rfl,brf _ _⟩
 go_enter Tryz.func52,Tryz.ntmps52
 go_wp2
 go_loopw [18] (fun i wr=>∃k:Nat,k≤L.length∧i=I O k∧(∀j,j<k→xX L j=0)∧Below w.heap.size w wr) (fun i _=>L.length - (intOf i).toNat)
 case atStart=>exact⟨0,Nat.zero_le _,rfl,fun j hj=>absurd hj (Nat.not_lt_zero j),brf _ _⟩
 case round =>
  obtain⟨wo,rfl⟩:∃wo:World,wo=wr:=⟨_,rfl⟩;obtain⟨k,hk,rfl,ha,hb⟩:=hrel;have HAL:=mh ha;have HB:=mh hb;have hk0:(0:Int)≤(k:Int):=inn _
  by_cases hlt:k<L.length
  ·have hk1:(k:Int)<(L.length:Int):=by omega
   obtain⟨b,off,r,rfl,hbl,hC,hv⟩:=(H.below hb).at hlt;have CV:=mh (cC d r L[k] _ (hv.below (qK mle (brf _ _) (.cells (zN r).toArray 81))) (by rw[hv.nm];exact HZ _ (List.getElem_mem hlt)) (HCT _ (List.getElem_mem hlt)));have RN:=mh hv.nm;have RU:=mh hv.num;obtain⟨c0,c1,c2,c3,c4,c5,c6,c7,c8,c9⟩:=hC;obtain⟨num,nm,⟨o,tn,tm,tp,tl,tc⟩,bp,bn,bc,least,ex,needs⟩:=r;simp only at c0 c1 c2 c3 c4 c5 c6 c7 c8 c9 RN RU;simp only[zN]at CV;have HBA:=mh (qK mle HB (.cells #[I O num,.string nm,I O o,I O tn,I O tm,.slice tp tl tc,.slice bp bn bc,I O least,I O ex,.bool needs] 81));obtain⟨v,ev⟩:∃v,zY L[k]=v:=⟨_,rfl⟩;have EV:=mh ev;rw[ev]at CV;clear ha hb hv ev
   by_cases hv0:v=0
   ·subst hv0
    have E6:=mh (fun (h:yH L k L[k]=true)=>(show cv=((k:Int),6) from by rw[← ECV.out,yYA h16 hlt HAL.out (by rw[xL hlt EV.out,if_pos h];decide),xL hlt EV.out,if_pos h]));have E0:=mh (fun (h:yH L k L[k]=false)=>(show xX L k=0 from by rw[xL hlt EV.out,if_neg (by rw[h];decide)]));have hkc:(k:Int)≤(cap:Int):=by omega
    go_wp2_with (first|(go_at_call 89;(with_reducible refine cmo CV.out ?_);rintro e w1 ⟨rfl,hb1⟩;have HB1:=mh (qZ mle HBA hb1);have HZ1:=mh (show wo.heap.size<w1.heap.size from nll (by simp) hb1.size);have V0:=mh (qJ hb1 0);have V1:=mh (qJ hb1 1);clear hb1))
    have HS1:=mh (show wo.heap.size<w1.heap.size from HZ1.out)
    go_loopw [33] (fun i wr=>∃j:Nat,j≤k∧i=I O j∧(∀m,m<j→tw L k L[k] m=false)∧Below w1.heap.size w1 wr) (fun i _=>k - (intOf i).toNat)
    case atStart=>exact⟨0,Nat.zero_le _,rfl,fun j hj=>absurd hj (Nat.not_lt_zero j),brf _ _⟩
    case round =>
     obtain⟨wi,rfl⟩:∃wi:World,wi=wr:=⟨_,rfl⟩;obtain⟨j,hj,rfl,ht,hbi⟩:=hrel;have HT:=mh ht;have HBI:=mh hbi;have hx0:=(hbi.cell (p:=⟨wo.heap.size,0,none⟩) HS1).trans V0.out;have hx1:=(hbi.cell (p:=⟨wo.heap.size,1,none⟩) HS1).trans V1.out;have HIS:=mh (nll HS1 hbi.size)
     by_cases hjk:j<k
     ·have hj0:(0:Int)≤(j:Int):=inn _
      have hj1:(j:Int)<(k:Int):=by omega
      have hj2:(j:Int)<(L.length:Int):=by omega
      obtain⟨b', off', y,ey,hyl,hY,hyv⟩:=(H.below (qZ mle HB1 hbi)).at (show j<L.length by omega)
      cases ey
      have YN:=mh hyv.nm;have YU:=mh hyv.num;obtain⟨y0,y1,y2,y3,y4,y5,y6,y7,y8,y9⟩:=hY;obtain⟨ynum,ynm,⟨yo,ytn,ytm,ytp,ytl,ytc⟩,ybp,ybn,ybc,yleast,yex,yneeds⟩:=y;simp only at y0 y1 y2 y3 y4 y5 y6 y7 y8 y9 YN YU;have HBJ:=mh (qK mle hbi (.cells #[I O ynum,.string ynm,I O yo,I O ytn,I O ytm,.slice ytp ytl ytc,.slice ybp ybn ybc,I O yleast,I O yex,.bool yneeds] 81));have gx0:(wi.alloc (.cells #[I O ynum,.string ynm,I O yo,I O ytn,I O ytm,.slice ytp ytl ytc,.slice ybp ybn ybc,I O yleast,I O yex,.bool yneeds] 81)).cell? ⟨wo.heap.size,0,none⟩=some (I O num):=(World.cell?_alloc_past _ _ _ HIS).trans hx0;have gx1:(wi.alloc (.cells #[I O ynum,.string ynm,I O yo,I O ytn,I O ytm,.slice ytp ytl ytc,.slice ybp ybn ybc,I O yleast,I O yex,.bool yneeds] 81)).cell? ⟨wo.heap.size,1,none⟩=some (.string nm):=(World.cell?_alloc_past _ _ _ HIS).trans hx1;have TW:=mh (yDA (L:=L) (i:=k) (s:=L[k]) (show j<L.length by omega));obtain⟨nb,enb⟩:∃x,(ynm.toList==nm.toList)=x:=⟨_,rfl⟩;have ENB:=mh (show kT L[k].nm L[j]=nb from by rw[← enb,lW,YN.out,RN.out];rfl);have hwi:IntKind.i64.wrap ((k:Int) - 1)=(k:Int) - 1:=by rw[IntKind.wrap_i64];omega
      clear ht hbi hyv
      cases nb
      ·have LST:=mh (fun (z:Bool) (hz:(decide (j+1=k)&&decide (num≤ynum))=z)=>show tw L k L[k] j=z from by rw[TW.out,ENB.out,Bool.false_or,← RU.out,← YU.out];exact hz)
       by_cases hjl:j+1=k
       ·have g1:((j:Int)==(k:Int) - 1)=true:=beq_iff_eq.2 (by omega)
        by_cases hle:num≤ynum
        ·have d1:decide (num≤ynum)=true:=dqt hle
         have HV:=mh (E6 (tF (by omega) hjk (LST true (by rw[dqt hjl,d1];rfl))));clear hle hjl
         go_wp2
         go_ret2
         exact⟨by rw[HV.out];rfl,qZ mle HB1 HBJ.out⟩
        ·have d1:decide (num≤ynum)=false:=dqf hle
         have HV:=mh (LST false (by rw[d1,Bool.and_false]));clear hle hjl
         go_wp2
         go_roundw
         case rel=>exact⟨j+1,by omega,by go_num,fun m hm=>by
          by_cases e:m=j
          ·subst e;exact HV.out
          ·exact HT m (by omega),HBJ.out⟩
         case measure=>simp[intOf];omega
       ·have g1:((j:Int)==(k:Int) - 1)=false:=beq_eq_false_iff_ne.2 (by omega)
        have HV:=mh (LST false (by rw[dqf hjl,Bool.false_and]));clear hjl
        go_wp2
        go_roundw
        case rel=>exact⟨j+1,by omega,by go_num,fun m hm=>by
         by_cases e:m=j
         ·subst e;exact HV.out
         ·exact HT m (by omega),HBJ.out⟩
        case measure=>simp[intOf];omega
      ·have HV:=mh (E6 (tF (by omega) hjk (by rw[TW.out,ENB.out,Bool.true_or])))
       go_wp2
       go_ret2
       exact⟨by rw[HV.out];rfl,qZ mle HB1 HBJ.out⟩
     ·obtain rfl:j=k:=by omega
      have HV:=mh (E0 (uVA (by omega) HT));clear ht hbi
      go_wp2
      go_roundw
      case rel=>exact⟨j+1,by omega,by go_num,fun m hm=>by
       by_cases e:m=j
       ·subst e;exact HV.out
       ·exact HAL m (by omega),qZ mle HB1 HBI.out⟩
      case measure=>simp[intOf];omega
   ·have HV:=mh (show cv=((k:Int),v) from by rw[← ECV.out,yYA h16 hlt HAL.out (by rw[uB hlt (by rw[EV.out];exact hv0),EV.out];exact hv0),uB hlt (by rw[EV.out];exact hv0),EV.out])
    go_wp2_with (first|(go_at_call 89;(with_reducible refine cmo CV.out ?_);rintro e w1 ⟨rfl,hb1⟩;have HB1:=mh (qZ mle HBA hb1);have HZ1:=mh (show wo.heap.size<w1.heap.size from nll (by simp) hb1.size);have V0:=mh (qJ hb1 0);have V1:=mh (qJ hb1 1);clear hb1))
    go_ret2
    exact⟨by rw[HV.out];rfl,HB1.out⟩
  ·obtain rfl:k=L.length:=by omega
   clear ha hb;have HBO:=HB
   go_wp2
   go_loopw [61] (fun i wr=>∃k:Nat,k≤L.length∧i=I O k∧(∀j,j<k→uY L j=0)∧Below w.heap.size w wr) (fun i _=>L.length - (intOf i).toNat)
   case atStart=>exact⟨0,Nat.zero_le _,rfl,fun j hj=>absurd hj (Nat.not_lt_zero j),HBO.out⟩
   case round =>
    obtain⟨wp,rfl⟩:∃wp:World,wp=wr:=⟨_,rfl⟩;obtain⟨k,hk,rfl,ha,hb⟩:=hrel;have HBL:=mh ha;have HC:=mh hb;have hk0' : (0:Int)≤(k:Int):=inn _
    by_cases hlt:k<L.length
    ·have hk1:(k:Int)<(L.length:Int):=by omega
     obtain⟨b,off,r,rfl,hbl,hCc,hv⟩:=(H.below hb).at hlt;have HN:=lT hlt (HAL k hlt);have RU:=mh hv.num;have RE:=mh hv.ex;obtain⟨c0,c1,c2,c3,c4,c5,c6,c7,c8,c9⟩:=hCc;obtain⟨num,nm,⟨o,tn,tm,tp,tl,tc⟩,bp,bn,bc,least,ex,needs⟩:=r;simp only at c0 c1 c2 c3 c4 c5 c6 c7 c8 c9 RU RE;have HBA:=mh (qK mle HC (.cells #[I O num,.string nm,I O o,I O tn,I O tm,.slice tp tl tc,.slice bp bn bc,I O least,I O ex,.bool needs] 81));have ER:=mh (yHA hlt);obtain⟨s,es⟩:∃s,L[k]=s:=⟨_,rfl⟩;have h0:0≤num:=by rw[RU.out];exact HN.1
     have h15:num≤15:=by rw[RU.out];exact HN.2
     have RU2:=mh (show num=s.num from es▸RU.out);have RE2:=mh (show ex=s.ex from es▸RE.out);rw[es]at ER;clear ha hb hv HN es RU RE
     go_wp2_with (fail)
     obtain⟨W1,eW1⟩:∃W:World,W=wp.alloc (.cells #[I O num,.string nm,I O o,I O tn,I O tm,.slice tp tl tc,.slice bp bn bc,I O least,I O ex,.bool needs] 81):=⟨_,rfl⟩;have HS1:=mh (show wp.heap.size<W1.heap.size by rw[eW1];simp);have V0:=mh (show W1.cell? ⟨wp.heap.size,0,none⟩=some (I O num) from by rw[eW1];exact cwn _ _ _ 0);have V5:=mh (show W1.cell? ⟨wp.heap.size,8,none⟩=some (I O ex) from by rw[eW1];exact cwn _ _ _ 8);have HB1:=mh (show Below w.heap.size w W1 from by rw[eW1];exact HBA);rw[← eW1];clear eW1
     go_loopw [11] (fun i wr=>∃n:Nat,n≤16∧i=I O n∧(List.range n).all (uW L s)=true∧Below W1.heap.size W1 wr) (fun i _=>16 - (intOf i).toNat)
     case atStart=>exact⟨0,Nat.zero_le _,rfl,rfl,brf _ _⟩
     case round =>
      obtain⟨wi,rfl⟩:∃wi:World,wi=wr:=⟨_,rfl⟩;obtain⟨n,hn,rfl,hm,hbi⟩:=hrel;have HM:=mh hm;have HBI:=mh hbi;have HBW:=mh (qZ mle HB1 hbi);have hx0:=(hbi.cell (p:=⟨wp.heap.size,0,none⟩) HS1).trans V0.out;have hx8:=(hbi.cell (p:=⟨wp.heap.size,8,none⟩) HS1).trans V5.out;have HSZ:=mh (nll HS1 hbi.size);obtain⟨i,ei⟩:∃i:Int,(n:Int)=i:=⟨_,rfl⟩;have EI:=mh ei;have hi0:(0:Int)≤i:=by omega
      rw[ei]
      by_cases hlt2:n<16
      ·have hi1:i<16:=by omega
       have hi2:i≤15:=by omega
       cases eb:zH ex i
       ·have EB:(bits BinOp.and IntKind.i64 (ex / 2 ^ i.toNat) 1==0)=true:=by rw[vJ,eb];rfl
        have HM2:=mh (show(List.range (n+1)).all (uW L s)=true by rw[xW,HM.out,eP (by rw[← RE2.out,EI.out];exact eb)];rfl);clear hm hbi eb ei
        go_wp2
        go_roundw
        case rel=>exact⟨n+1,by omega,by rw[← EI.out];go_num,HM2.out,HBI.out⟩
        case measure=>rw[← EI.out];simp[intOf];omega
       ·have EB:(bits BinOp.and IntKind.i64 (ex / 2 ^ i.toNat) 1==0)=false:=by rw[vJ,eb];rfl
        have EBH:=mh (show zH s.ex n=true by rw[← RE2.out,EI.out];exact eb);have CF:=mh (pR d (some ⟨b,off,none⟩) L cap i wi (H.below HBW));have FG:=mh (sC L i);obtain⟨f,ef⟩:∃f,yE L i=f:=⟨_,rfl⟩;rw[ef]at CF FG;have EF:=mh (show yE L n=f by rw[EI.out];exact ef);have BAD:=mh (fun (h:uW L s n=false)=>show cv=((k:Int),17) from by rw[← ECV.out,chk_B h16 HAL.out hlt HBL.out (by rw[ER.out,rW hlt2 h];decide)]);clear hm hbi eb ei ef
        rcases Int.lt_or_le f 0 with hf|hf
        ·have HV:=mh (BAD (eK EBH (by rw[EF.out];exact hf)))
         have d1:decide (f<0)=true:=dqt hf;clear hf
         go_wp2_with (first|(go_at_call 90;(with_reducible refine cmo CF.out ?_);rintro e w1 ⟨rfl,hb1⟩;have HB2:=mh (qZ mle HBW hb1);clear hb1))
         go_quiet (fail)
         go_wp2
         go_ret2
         exact⟨by rw[HV.out];rfl,HB2.trans ((qQ _ _).mono HB2.size)⟩
        ·have d1:decide (f<0)=false:=by rw[decide_eq_false_iff_not];omega
         obtain⟨j,rfl⟩:=Int.eq_ofNat_of_zero_le hf;have hj:j<L.length:=by have:=FG.out;omega
         have MS:=mh (eU EBH EF hj);obtain⟨b', off', x,ex', hbl2,hC,hv⟩:=(H.below HBW).at hj
         cases ex'
         have C8:=mh hC.c8;have hxe:=hv.ex;have hj0' : (0:Int)≤(j:Int):=inn _;have hj1' : (j:Int)<(L.length:Int):=by omega
         obtain⟨xe,exe⟩:∃xe,x.ex=xe:=⟨_,rfl⟩;rw[exe]at C8 hxe;have EN:=RU2.out
         cases eb2:zH xe num
         ·have EB2:(bits BinOp.and IntKind.i64 (xe / 2 ^ num.toNat) 1==0)=true:=by rw[vJ,eb2];rfl
          have HV:=mh (BAD (by rw[MS.out,← hxe,← EN];exact eb2));clear hf hC hv eb2 hxe exe EN
          go_wp2_with (first|(go_at_call 90;(with_reducible refine cmo CF.out ?_);rintro e w1 ⟨rfl,hb1⟩;have HB2:=mh (qZ mle HBW hb1);have HB3:=mh (qZ mle HBI hb1);have hj0:=(hb1.cell (p:=⟨wp.heap.size,0,none⟩) HSZ).trans hx0;have hx8' := (hb1.cell (p:=⟨b,off+j*10+8,none⟩) hbl2).trans C8.out;clear hb1))
          go_quiet (fail)
          go_wp2
          go_ret2
          exact⟨by rw[HV.out];rfl,HB2.trans ((qQ _ _).mono HB2.size)⟩
         ·have EB2:(bits BinOp.and IntKind.i64 (xe / 2 ^ num.toNat) 1==0)=false:=by rw[vJ,eb2];rfl
          have HM2:=mh (show(List.range (n+1)).all (uW L s)=true by rw[xW,HM.out,MS.out,← hxe,← EN,eb2];rfl);clear hf hC hv eb2 hxe exe EN
          go_wp2_with (first|(go_at_call 90;(with_reducible refine cmo CF.out ?_);rintro e w1 ⟨rfl,hb1⟩;have HB2:=mh (qZ mle HBW hb1);have HB3:=mh (qZ mle HBI hb1);have hj0:=(hb1.cell (p:=⟨wp.heap.size,0,none⟩) HSZ).trans hx0;have hx8' := (hb1.cell (p:=⟨b,off+j*10+8,none⟩) hbl2).trans C8.out;clear hb1))
          go_quiet (fail)
          go_wp2
          go_roundw
          case rel=>exact⟨n+1,by omega,by rw[← EI.out];go_num,HM2.out,HB3.trans ((qQ _ _).mono HB3.size)⟩
          case measure=>rw[← EI.out];simp[intOf];omega
      ·obtain rfl:n=16:=by omega
       have HV:=mh (show uY L k=0 from by rw[ER.out,if_pos (show zP L s=true from hm)]);have hi1:i=16:=ei.symm;clear hm hbi ei;subst hi1
       go_wp2
       go_roundw
       case rel=>exact⟨k+1,by omega,by go_num,fun j hj=>by
        by_cases e:j=k
        ·subst e;exact HV.out
        ·exact HBL j (by omega),HBW.out⟩
       case measure=>simp[intOf];omega
    ·obtain rfl:k=L.length:=by omega
     have HV:=mh (show cv=(-1,0) from ECV.out▸jVA h16 HAL HBL);clear ha hb
     go_wp2
     go_ret2
     exact⟨by rw[HV.out];rfl,HC.out⟩
theorem fst_ne {f:Nat→Int}{n k:Nat}(h:fst f n=some k):k<n∧f k≠0:=by
 unfold fst at h;have h1:=List.mem_of_find?_eq_some h;have h2:=List.find?_some h;exact⟨List.mem_range.1 h1,by simpa using h2⟩
theorem rX {f:Nat→Int}{n:Nat}(h:fst f n=none):∀j,j<n→f j=0:=by
 intro j hj;unfold fst at h;rw[List.find?_eq_none]at h
 simpa using h j (List.mem_range.2 hj)
theorem lH {L:List Sch}(h:(jU L).2=0):jU L=(-1,0)∧L.length≤16∧(∀j,j<L.length→xX L j=0)∧(∀j,j<L.length→uY L j=0):=by
 by_cases h16:16<L.length
 ·rw[nR h16]at h;cases h
 cases hA:fst (xX L) L.length with
 | some i =>
   have e:jU L=((i:Int),xX L i):=by unfold jU;rw[if_neg h16,hA]
   rw[e]at h;exact absurd h (fst_ne hA).2
 | none =>
   cases hB:fst (uY L) L.length with
   | some i =>
     have e:jU L=((i:Int),17):=by unfold jU;rw[if_neg h16,hA];simp only;rw[hB]
     rw[e]at h
     cases h
   | none=>exact⟨jVA h16 (rX hA) (rX hB),by omega,rX hA,rX hB⟩
theorem qX.stepAp {α:Type}{S:jJ α}{P:Program}{T TS:TypeId}{bytes:Nat}(he:fP S P T TS bytes){w:World}{ops:Array Oper}{o:Oper}{a:Act}{K:Act→World→Prop}{Q:Exit→Act→World→Prop}{E:Prop}(hgd:o.guard=none)(s x:Operand)
  (ho:o.op = .call { callee := .builtin .append,args:=#[s,x],argTypes:=#[TS,TS] }) (B:Nat) (v:Value) (L M:List α) (p:Option Addr) (c n:Nat) (hM:M.length=n) (hown:qX S w T B v L) (hsrc:qD S w p M) (hp:p=none→c=0) (hs:a.eval s=v)
  (hx:a.eval x = .slice p n c) (hB:B≤w.heap.size) (hn:L.length+n<1073741824) (hby:bytes≤65536)
  (h:∀v' w', qX S w' T B v' (L++M)→jN w w' B w.heap.size v v' → K (a.put o.dst v') w'):if Region.wanted o (yielded ops a.tmps)=true then Oper.wp P o a w K Q else E:=by
 subst hM;have hw:Region.wanted o (yielded ops a.tmps)=true:=by simp[Region.wanted,hgd]
 rw[if_pos hw];obtain⟨i0,z,e1,e2,e3,e4,e5⟩:=he.ex;have hb2:(L.length+M.length)*bytes≤1073741824*65536:=Nat.mul_le_mul (by omega) hby
 cases p with
 | none =>
   obtain rfl:=hp rfl;have hM:M = []:=by
    rcases hsrc.2 with h|⟨b,off,h,_⟩
    ·exact h
    ·cases h
   subst hM;have hrun:=run_append_owned_none (P:=P) (w:=w) B TS o.type T i0 S.k he.ts e1 v L.length (S.flat L) hown;unfold Oper.wp
   simp[execOp,ho,resolve,invoke,builtin,hs,hx,hrun,Result.andThen]
   exact h _ _ (by rw[List.append_nil];exact hown) ⟨brf _ _,Nat.le_refl _,fun _ _ _=>rfl,.inl rfl⟩
 | some ad =>
   obtain⟨v', w', hr,h2,h3, -,h4⟩:=run_append_own_at (P:=P) w B TS o.type T i0 z S.k bytes he.ts e1 e2 e3 e4 e5 S.pos v L.length (S.flat L) hown ad M.length c (S.flat M) (S.flat_len M) (fun j u hu=>by
    rcases hsrc.2 with rfl|⟨b', off', hp', hl,hc⟩
    ·simp[jJ.flat]at hu
    ·cases hp'
     rw[Go.WideShapes.add_plain]
     exact hc j u hu) (S.flat_ones M) (by unfold maxLen;omega) (by omega) hB
   unfold Oper.wp execOp;simp only[ho,resolve,invoke,builtin,Sem.run_bind,Sem.run_pure,Result.andThen_ok,List.map_toArray,List.map_cons,List.map_nil,hs,hx,hr];refine h v' w' ?_ ⟨(brf B w).grown h3 hB fun k hk=>(World.ownsRow.lt hown k hk).1,h3.size,fun k hk hne=>h3.block k hk (fun e=>hne e.symm),h4⟩;unfold qX;rw[lap,S.flat_append];exact h2
theorem uAA (W:World)(b:Brk):qD SBk (W.alloc (.cells #[I O b.up,I O b.rate] 78)) (some ⟨W.heap.size,0,none⟩) [b]:=qD.lit (S:=SBk) W 78 [b] (by show 1≤_;unfold maxLen;omega)
end Go.Proofs.YtefcalgjnkigjaaGreat
namespace Go.Proofs.YtefcalgjnkigjaaGreat.Sh
/-! ### sums -/
def sum:List Int→Int
 | []=>0
 | x::l=>x+sum l
theorem sum_append (l m:List Int):sum (l++m)=sum l+sum m:=by
 induction l with
 | nil=>simp[sum]
 | cons x l ih=>simp only[List.cons_append,sum,ih];omega
theorem sum_snoc (l:List Int)(x:Int):sum (l ++ [x])=sum l+x:=by rw[sum_append];simp[sum]
end Go.Proofs.YtefcalgjnkigjaaGreat.Sh
