/- Packed. -/
import Derived.Test.YtefcalgjnkigjaaGreatL27
set_option maxRecDepth 100000
set_option maxHeartbeats 8000000
open Go.Value renaming int → I
open Go.IntKind renaming i64 → O
namespace Go.Proofs.YtefcalgjnkigjaaGreat
open Go.RowKit Sc As
structure As.Cp2 (w wr:World) (t H:Nat) (r:RY) (f:RF) (va vr:Value) (A:List Awd) (R:List Rsn) (pF:Option Addr) (C:List Int) (j:Nat):Prop where
 ac:zD wr t r f va vr
 oa:qX SA wr 91 (t+1) va (capN A C j)
 or:qX SRn wr 129 (t+1) vr R
 low:Below t w wr
 ints:qR wr pF C
 hs:H≤wr.heap.size
 nb:∀g,va.ownBlock=some g→g<H
 pf:∀a,pF=some a→H≤a.block
 d:yN va vr
theorem As.Cp2.set {w wr:World}{t H:Nat}{r:RY}{f:RF}{va vr:Value}{A:List Awd}{R:List Rsn}{pF:Option Addr}{C:List Int}{j n:Nat}(h:Cp2 w wr t H r f va vr A R pF C j)(hn:A.length=n)(hj:j<n) :
  ∃g c u,va = .slice (some ⟨g,0,none⟩) n c∧wr.cell? ⟨g,j*9+7,none⟩=some u∧wr.frozen? ⟨g,j*9+7,none⟩=false∧Cp2 w (wr.setCell ⟨g,j*9+7,none⟩ (I O (C.getD j 0))) t H r f va vr A R pF C (j+1):=by
 have hl:(capN A C j).length=n:=by rw[capN_len,hn]
 obtain⟨p,c,e, -, -, -, -, -⟩:=h.oa.cut hl;have ho:=h.oa;rw[e]at ho;obtain⟨g,rfl, -,hB,hg,hcl,hf,hs⟩:=ho.at (show j<(capN A C j).length by rw[hl];exact hj);have h9:SA.k=9:=rfl;rw[h9]at hcl hs;have hgo:va.ownBlock=some g:=by rw[e];rfl
 refine⟨g,c,_,e,hcl 7 _ rfl,hf _,⟨h.ac.setO (by omega) _,?_,h.or.setOther (fun q=>h.d g hgo q) _,h.low.setCell (show t≤g by omega) _,?_,by simp[World.setCell];exact h.hs,h.nb,h.pf,h.d⟩⟩
 ·rw[e,capN_succ _ _ _ (show j<(capN A C j).length by rw[hl];exact hj)]
  exact hs 7 _ _ (by omega) rfl
 ·refine⟨h.ints.1,?_⟩
  rcases h.ints.2 with q|⟨b,off,q,hlt,hc⟩
  ·exact .inl q
  ·have:H≤b:=h.pf _ q
   have:=h.nb g hgo;exact .inr ⟨b,off,q,by simp[World.setCell];exact hlt,fun k hk=>(World.cell?_setCell_other _ _ _ _ (fun e=>by simp only[Addr.mk.injEq]at e;omega)).trans (hc k hk)⟩
def CpG (t:Nat) (r:RY) (rf:RF) (l:YLaw) (f:FarmF) (er:Int) (w:World) (e:Ending) (w' : World):Prop :=
 e = .returned (I O er)∧Below t w w' ∧ (er=0→∃va vr,zD w' t r rf va vr∧qX SA w' 91 (t+1) va (jT (qC l f) (Ce.farm l.deg l.cap (qY (qC l f))))∧qX SRn w' 129 (t+1) vr (xN l f))
theorem pU (d t:Nat)(r:RY)(l:YLaw)(rf:RF)(f:FarmF)(w:World)(hA:zD w t r rf (.slice none 0 0) (.slice none 0 0))(hY:YV (fun b=>b<t) w d r l)(hF:FV (fun b=>b<t) w rf f)(hl:YOk l)(hf:vP l f) :
  Calls Tryz.prog 64 #[.pointer (some ⟨t,0,none⟩)] w (CpG t r rf l f (Ce.farmErr l.deg l.cap (qY (qC l f))) w):=by
 have hsn:=hY.sn;have hkl:=hl.len;have HY:=mh hY;have HF:=mh hF;have HL:=mh hl;have HFO:=mh hf
 have C0:=mh (show gK w w t r rf (.slice none 0 0) (.slice none 0 0) (.slice none 0 0) [] (xV l f 0 0) [] from
  ⟨hA,qX.nil _ _ _,by rw[xMA];exact qX.nil _ _ _,qX.nil _ _ _,brf _ _,yN.nil _,yN.nil _,yN.nil _⟩)
 obtain⟨b,off, -,esp0, -, -, -⟩:=hY.sch.at (show 0<l.sch.length by have:=hl.ne;omega);have a0:w.cell? ⟨t,0,none⟩=some (.slice (some ⟨b,off,none⟩) l.sch.length r.sc):=by rw[← hsn,← esp0];exact hA.cell 0 _ rfl
 have ESP:=mh esp0;clear esp0;have HSN:=mh hsn;have HFARM:=mh hF.farm;have HDAY:=mh hF.day;clear hA hY hF hl hf hsn
 go_enter Tryz.func64,Tryz.ntmps64
 go_wp2
 go_loopw [3,20] (fun v i wr=>∃(k:Nat) (va vr vt:Value),k≤l.sch.length∧i=I O k∧vt=v∧gK w wr t r rf va vr vt (qW l f k) (xV l f k 0) (qY (qW l f k))) (fun _ i _=>l.sch.length - (intOf i).toNat)
 case atStart=>exact⟨0,_,_,_,Nat.zero_le _,rfl,rfl,C0.out⟩
 case round =>
  clear a0;obtain⟨wo,rfl⟩:∃wo:World,wo=wr:=⟨_,rfl⟩;obtain⟨k,va,vr,vt,hk,rfl,rfl,hc⟩:=hrel;have HCM:=mh hc;have hk0:(0:Int)≤(k:Int):=inn _
  by_cases hlt:k<l.sch.length
  ·have hk1:(k:Int)<(l.sch.length:Int):=by omega
   obtain⟨b', off', y,esp,hbl,⟨e0,e1,e2,e3,e4,e5,e6,e7,e8,e9⟩,hv⟩:=HY.sch.at hlt;have hbt:b' < t:=by
    rcases HY.sch.q _ esp with h|h
    ·rw[h]at hlt;exact absurd hlt (Nat.not_lt_zero _)
    ·exact h
   have c0:=(hc.low.cell (p:=⟨b', off' + k*10,none⟩) hbt).trans e0;have c1:=(hc.low.cell (p:=⟨b', off' + k*10+1,none⟩) hbt).trans e1;have c2:=(hc.low.cell (p:=⟨b', off' + k*10+2,none⟩) hbt).trans e2;have c3:=(hc.low.cell (p:=⟨b', off' + k*10+3,none⟩) hbt).trans e3;have c4:=(hc.low.cell (p:=⟨b', off' + k*10+4,none⟩) hbt).trans e4;have c5:=(hc.low.cell (p:=⟨b', off' + k*10+5,none⟩) hbt).trans e5;have c6:=(hc.low.cell (p:=⟨b', off' + k*10+6,none⟩) hbt).trans e6;have c7:=(hc.low.cell (p:=⟨b', off' + k*10+7,none⟩) hbt).trans e7;have c8:=(hc.low.cell (p:=⟨b', off' + k*10+8,none⟩) hbt).trans e8;have c9:=(hc.low.cell (p:=⟨b', off' + k*10+9,none⟩) hbt).trans e9;clear e0 e1 e2 e3 e4 e5 e6 e7 e8 e9 hbt hbl;have ebb:=esp.symm.trans ESP.out
   cases ebb
   clear esp;have hsk:l.sch[k]?=some l.sch[k]:=List.getElem?_eq_getElem hlt;have hnum:=hv.num;have AW:=awardsN_succ (l:=l) (f:=f) hlt;have hsb:=rR HL HFO hsk f.lines.length;rw[List.take_length]at hsb;have hba:=(brf wo.heap.size wo).alloc mle (.cells #[I O y.num,.string y.nm,I O y.t.op,I O y.t.num,I O y.t.more,.slice y.t.p y.t.n y.t.c,.slice y.bp y.bn y.bc,I O y.least,I O y.ex,.bool y.needs] 81);have HCA:=mh (hc.below hba);have SQc:=mh (sG d t r l rf f va vr k (wo.alloc (.cells #[I O y.num,.string y.nm,I O y.t.op,I O y.t.num,I O y.t.more,.slice y.t.p y.t.n y.t.c,.slice y.bp y.bn y.bc,I O y.least,I O y.ex,.bool y.needs] 81)) HCA.ac (HY.lowB HCA.low) (HF.lowB HCA.low) HL HFO hlt HCA.or);obtain⟨s,es⟩:∃s,l.sch[k]=s:=⟨_,rfl⟩;obtain⟨D,eD⟩:∃z,yQ s f.lines=z:=⟨_,rfl⟩;obtain⟨N,eN⟩:∃z,yY l k s f.lines=z:=⟨_,rfl⟩;obtain⟨sm,esm⟩:∃z,kM s f.lines=z:=⟨_,rfl⟩;obtain⟨farm,efa⟩:∃z,f.farm=z:=⟨_,rfl⟩;rw[es]at SQc hsk hnum AW hsb hv;rw[eD,eN]at SQc hsb;rw[esm]at SQc AW;rw[efa,← hnum]at SQc;have SQ:=mh (show Calls Tryz.prog 99 #[.pointer (some ⟨t,0,none⟩),I O k] (wo.alloc (.cells #[I O y.num,.string y.nm,I O y.t.op,I O y.t.num,I O y.t.more,.slice y.t.p y.t.n y.t.c,.slice y.bp y.bn y.bc,I O y.least,I O y.ex,.bool y.needs] 81)) (fun e w' => e = .returned (.tuple #[.agg #[I O farm,I O y.num,I O D,I O N,I O 0,I O 0,I O 0,I O 0,I O 0],.bool sm,I O 0])∧∃vr', zD w' t r rf va vr' ∧ qX SRn w' 129 (t+1) vr' (xV l f (k+1) 0)∧Chg t vr vr' (wo.alloc (.cells #[I O y.num,.string y.nm,I O y.t.op,I O y.t.num,I O y.t.more,.slice y.t.p y.t.n y.t.c,.slice y.bp y.bn y.bc,I O y.least,I O y.ex,.bool y.needs] 81)) w') from SQc.out);have HVO:=mh (fun g (hg:vr.ownBlock=some g)=>(hc.or.lt hg));have HSV0:=mh hv;have SBK:=mh (show(wo.alloc (.cells #[I O y.num,.string y.nm,I O y.t.op,I O y.t.num,I O y.t.more,.slice y.t.p y.t.n y.t.c,.slice y.bp y.bn y.bc,I O y.least,I O y.ex,.bool y.needs] 81)).heap[wo.heap.size]?=some (.cells #[I O y.num,.string y.nm,I O y.t.op,I O y.t.num,I O y.t.more,.slice y.t.p y.t.n y.t.c,.slice y.bp y.bn y.bc,I O y.least,I O y.ex,.bool y.needs] 81) from Array.getElem?_push_size);have HSK:=mh hsk;have HNU:=mh hnum;have HES:=mh es;have HED:=mh (And.intro eD eN);have HEF:=mh efa;have HSB:=mh hsb;have HTO:=mh hc.ac.lt;clear SQc hc hba hv hsk hnum es eD eN esm efa hsb
   cases sm
   ·have SAME:=mh (show qW l f (k+1)=qW l f k from by rw[AW];simp)
    clear AW
    go_wp2_with (go_at_call 99;(with_reducible refine cmo SQ.out ?_);rintro e w1 ⟨rfl,vr1,hac1,hor1,hch1⟩;have HC1:=mh (HCA.rsn hac1 hor1 hch1);have SB1:=mh (show w1.heap[wo.heap.size]?=some (.cells #[I O y.num,.string y.nm,I O y.t.op,I O y.t.num,I O y.t.more,.slice y.t.p y.t.n y.t.c,.slice y.bp y.bn y.bc,I O y.least,I O y.ex,.bool y.needs] 81) from(hch1.block _ (by simp) (by have:=HTO.out;omega) (fun e=>by have:=(HVO _ e).2;omega)).trans SBK);clear hac1 hor1 hch1)
    go_roundw
    case rel=>exact⟨k+1,va,vr1,vt,by omega,by go_num,rfl,by rw[SAME.out];exact HC1.below ((brf _ _).alloc mle _)⟩
    case measure=>simp[intOf];omega
   ·have MORE:=mh (show qW l f (k+1)=qW l f k ++ [uF l f k s] from by rw[AW];simp)
    clear AW;obtain⟨p,ep⟩:∃z,zA l s D N=z:=⟨_,rfl⟩;obtain⟨R,eR⟩:∃z,zL s p=z:=⟨_,rfl⟩;obtain⟨TM,eT⟩:∃z,left l.late f.day R=z:=⟨_,rfl⟩
    have EAW:=mh (show uF l f k s=⟨farm,y.num,D,N,p,R,TM,0,0⟩ from by
     show(⟨f.farm,s.num,yQ s f.lines,yY l k s f.lines,zA l s (yQ s f.lines) (yY l k s f.lines),zL s (zA l s (yQ s f.lines) (yY l k s f.lines)),left l.late f.day (zL s (zA l s (yQ s f.lines) (yY l k s f.lines))),0,0⟩:Awd)=_
     rw[HED.out.1,HED.out.2,HEF.out,HNU.out,ep,eR,eT])
    have AMS:=mh (fun (W:World) (u:Value) (hc:gK w W t r rf va u vt (qW l f k) (xV l f (k+1) 0) (qY (qW l f k))) (hsb:W.heap[wo.heap.size]?=some (.cells #[I O y.num,.string y.nm,I O y.t.op,I O y.t.num,I O y.t.more,.slice y.t.p y.t.n y.t.c,.slice y.bp y.bn y.bc,I O y.least,I O y.ex,.bool y.needs] 81)) =>
     show Calls Tryz.prog 100 #[.pointer (some ⟨t,0,none⟩),.pointer (some ⟨W.heap.size,0,none⟩),.agg #[I O y.num,.string y.nm,I O y.t.op,I O y.t.num,I O y.t.more,.slice y.t.p y.t.n y.t.c,.slice y.bp y.bn y.bc,I O y.least,I O y.ex,.bool y.needs]] (W.alloc (.cells #[I O farm,I O y.num,I O D,I O N,I O 0,I O 0,I O 0,I O 0,I O 0] 91)) (AmG t W.heap.size r rf va u #[I O farm,I O y.num,I O D,I O N,I O p,I O R,I O TM,I O 0,I O 0] (W.alloc (.cells #[I O farm,I O y.num,I O D,I O N,I O 0,I O 0,I O 0,I O 0,I O 0] 91))) from by
      have hb:=(brf W.heap.size W).alloc mle (.cells #[I O farm,I O y.num,I O D,I O N,I O 0,I O 0,I O 0,I O 0,I O 0] 91);have hc2:=hc.below hb;have hf:=HFO.out;have h:=pY d t W.heap.size r l rf va u y s k farm y.num D N (W.alloc (.cells #[I O farm,I O y.num,I O D,I O N,I O 0,I O 0,I O 0,I O 0,I O 0] 91)) hc2.ac (HY.lowB hc2.low) HL HSK ((HSV0.change (Q' := fun b=>b<t) hc2.low.size fun b q _=>⟨hc2.low.block b q,q⟩)) Array.getElem?_push_size hc.ac.lt HSB.1 HSB.2.1 HSB.2.2 (by rw[HDAY.out];exact hf.d0) (by rw[HDAY.out];exact hf.d1);rw[ep,eR,HDAY.out,eT]at h
      exact h)
    go_wp2_with (first|(go_at_call 99;(with_reducible refine cmo SQ.out ?_);rintro e w1 ⟨rfl,vr1,hac1,hor1,hch1⟩;have HC1:=mh (HCA.rsn hac1 hor1 hch1);have SB1:=mh (show w1.heap[wo.heap.size]?=some (.cells #[I O y.num,.string y.nm,I O y.t.op,I O y.t.num,I O y.t.more,.slice y.t.p y.t.n y.t.c,.slice y.bp y.bn y.bc,I O y.least,I O y.ex,.bool y.needs] 81) from(hch1.block _ (by simp) (by have:=HTO.out;omega) (fun e=>by have:=(HVO _ e).2;omega)).trans SBK);have SB2:=mh (show(w1.alloc (.cells #[I O farm,I O y.num,I O D,I O N,I O 0,I O 0,I O 0,I O 0,I O 0] 91)).heap[wo.heap.size]?=some (.cells #[I O y.num,.string y.nm,I O y.t.op,I O y.t.num,I O y.t.more,.slice y.t.p y.t.n y.t.c,.slice y.bp y.bn y.bc,I O y.least,I O y.ex,.bool y.needs] 81) from(((brf w1.heap.size w1).alloc mle _).block _ (Array.getElem?_eq_some_iff.1 SB1).1).trans SB1);have zz:∀i,(w1.alloc (.cells #[I O farm,I O y.num,I O D,I O N,I O 0,I O 0,I O 0,I O 0,I O 0] 91)).cell? ⟨wo.heap.size,i,none⟩=(#[I O y.num,.string y.nm,I O y.t.op,I O y.t.num,I O y.t.more,.slice y.t.p y.t.n y.t.c,.slice y.bp y.bn y.bc,I O y.least,I O y.ex,.bool y.needs]:Array Value)[i]?:=(fun i=>by simp[World.cell?,SB2.out]);have z0:=zz 0;have z1:=zz 1;have z2:=zz 2;have z3:=zz 3;have z4:=zz 4;have z5:=zz 5;have z6:=zz 6;have z7:=zz 7;have z8:=zz 8;have z9:=zz 9;clear hac1 hor1 hch1 zz)|(go_at_call 100;have AMc:=AMS.out w1 vr1 HC1 SB1.out;(with_reducible refine cmo AMc ?_);clear AMc;rintro e w3 ⟨rfl,hac3,hx3,hbt3⟩;have CM3:=mh ((HC1.below ((brf w1.heap.size w1).alloc mle (.cells #[I O farm,I O y.num,I O D,I O N,I O 0,I O 0,I O 0,I O 0,I O 0] 91))).far hbt3 (show t<w1.heap.size from HC1.ac.lt) (fun e=>by have:=(HC1.oa.lt e).2;omega) (fun e=>by have:=(HC1.or.lt e).2;omega) (fun e=>by have:=(HC1.ot.lt e).2;omega));have HX3:=mh hx3;have XL3:=mh (show w1.heap.size<w3.heap.size from(Array.getElem?_eq_some_iff.1 hx3).1);clear hac3 hx3 hbt3)|fail)
    have t13:=CM3.ac.cell 13 _ rfl;have t13f:=CM3.ac.frozen 13;have xx:∀i,w3.cell? ⟨w1.heap.size,i,none⟩=(#[I O farm,I O y.num,I O D,I O N,I O p,I O R,I O TM,I O 0,I O 0]:Array Value)[i]?:=(fun i=>by simp[World.cell?,HX3.out]);have x0:=xx 0;have x1:=xx 1;have x2:=xx 2;have x3:=xx 3;have x4:=xx 4;have x5:=xx 5;have x6:=xx 6;have x7:=xx 7;have x8:=xx 8;clear xx;have hal:(qW l f k).length<1000:=by have:=awardsN_le l f k;omega
    have htl:(qY (qW l f k)).length<1000:=by unfold qY;rw[List.length_map];exact hal
    have NVT:=mh (show vt.ownBlock≠some w1.heap.size from fun e=>by have:=(HC1.ot.lt e).2;omega);have NVA:=mh (show va.ownBlock≠some w1.heap.size from fun e=>by have:=(HC1.oa.lt e).2;omega);have DR:=mh (show Below w3.heap.size w3 w3.drew from(brf w3.heap.size w3).drew);have CMD:=mh (CM3.below DR);have KS:=mh (fun (W:World) (u:Value) (hc:zD W t r rf va u) (hx:W.heap[w1.heap.size]?=some (.cells #[I O farm,I O y.num,I O D,I O N,I O p,I O R,I O TM,I O 0,I O 0] 91))=>show W.cell? ⟨t,13,none⟩=some va∧W.cell? ⟨w1.heap.size,0,none⟩=some (I O farm)∧W.cell? ⟨w1.heap.size,1,none⟩=some (I O y.num)∧W.cell? ⟨w1.heap.size,2,none⟩=some (I O D)∧W.cell? ⟨w1.heap.size,3,none⟩=some (I O N)∧W.cell? ⟨w1.heap.size,4,none⟩=some (I O p)∧W.cell? ⟨w1.heap.size,5,none⟩=some (I O R)∧W.cell? ⟨w1.heap.size,6,none⟩=some (I O TM)∧W.cell? ⟨w1.heap.size,7,none⟩=some (I O 0)∧W.cell? ⟨w1.heap.size,8,none⟩=some (I O 0) from⟨hc.cell 13 _ rfl,by simp[World.cell?,hx],by simp[World.cell?,hx],by simp[World.cell?,hx],by simp[World.cell?,hx],by simp[World.cell?,hx],by simp[World.cell?,hx],by simp[World.cell?,hx],by simp[World.cell?,hx],by simp[World.cell?,hx]⟩);have KD:=mh (show w3.drew.cell? ⟨t,13,none⟩=some va∧w3.drew.cell? ⟨w1.heap.size,0,none⟩=some (I O farm)∧w3.drew.cell? ⟨w1.heap.size,1,none⟩=some (I O y.num)∧w3.drew.cell? ⟨w1.heap.size,2,none⟩=some (I O D)∧w3.drew.cell? ⟨w1.heap.size,3,none⟩=some (I O N)∧w3.drew.cell? ⟨w1.heap.size,4,none⟩=some (I O p)∧w3.drew.cell? ⟨w1.heap.size,5,none⟩=some (I O R)∧w3.drew.cell? ⟨w1.heap.size,6,none⟩=some (I O TM)∧w3.drew.cell? ⟨w1.heap.size,7,none⟩=some (I O 0)∧w3.drew.cell? ⟨w1.heap.size,8,none⟩=some (I O 0) from KS.out _ _ CMD.ac (HX3));have B1:=mh (show Below w3.heap.size w3 (w3.drew.alloc (.cells #[I O farm,I O y.num,I O D,I O N,I O p,I O R,I O TM,I O 0,I O 0] 91)) from((brf w3.heap.size w3).drew).alloc (by simp) (.cells #[I O farm,I O y.num,I O D,I O N,I O p,I O R,I O TM,I O 0,I O 0] 91));have CA1:=mh (CM3.below B1);have KX1:=mh (KS _ _ CA1.ac ((B1.block _ XL3).trans HX3));have B2:=mh (show Below w3.heap.size w3 (w3.drew.alloc (.cells #[I O TM] 3)) from((brf w3.heap.size w3).drew).alloc (by simp) (.cells #[I O TM] 3));have CA2:=mh (CM3.below B2);have KX2:=mh (KS _ _ CA2.ac ((B2.block _ XL3).trans HX3));have B12:=mh (show Below w3.heap.size w3 ((w3.drew.alloc (.cells #[I O farm,I O y.num,I O D,I O N,I O p,I O R,I O TM,I O 0,I O 0] 91)).alloc (.cells #[I O TM] 3)) from(((brf w3.heap.size w3).drew).alloc (by simp) (.cells #[I O farm,I O y.num,I O D,I O N,I O p,I O R,I O TM,I O 0,I O 0] 91)).alloc (by simp) (.cells #[I O TM] 3))
    have CA12:=mh (CM3.below B12);have KX12:=mh (KS _ _ CA12.ac ((B12.block _ XL3).trans HX3));have B21:=mh (show Below w3.heap.size w3 ((w3.drew.alloc (.cells #[I O TM] 3)).alloc (.cells #[I O farm,I O y.num,I O D,I O N,I O p,I O R,I O TM,I O 0,I O 0] 91)) from(((brf w3.heap.size w3).drew).alloc (by simp) (.cells #[I O TM] 3)).alloc (by simp) (.cells #[I O farm,I O y.num,I O D,I O N,I O p,I O R,I O TM,I O 0,I O 0] 91));have CA21:=mh (CM3.below B21);have KX21:=mh (KS _ _ CA21.ac ((B21.block _ XL3).trans HX3));have SR1:=mh (show qD SA (w3.drew.alloc (.cells #[I O farm,I O y.num,I O D,I O N,I O p,I O R,I O TM,I O 0,I O 0] 91)) (some ⟨w3.heap.size,0,none⟩) [⟨farm,y.num,D,N,p,R,TM,0,0⟩] from qD.lit (S:=SA) w3.drew _ [⟨farm,y.num,D,N,p,R,TM,0,0⟩] (by show 1≤_;unfold maxLen;omega));have SR12:=mh (show qD SA ((w3.drew.alloc (.cells #[I O farm,I O y.num,I O D,I O N,I O p,I O R,I O TM,I O 0,I O 0] 91)).alloc (.cells #[I O TM] 3)) (some ⟨w3.heap.size,0,none⟩) [⟨farm,y.num,D,N,p,R,TM,0,0⟩] from SR1.below ((brf _ _).alloc mle _))
    have SR21:=mh (show qD SA ((w3.drew.alloc (.cells #[I O TM] 3)).alloc (.cells #[I O farm,I O y.num,I O D,I O N,I O p,I O R,I O TM,I O 0,I O 0] 91)) (some ⟨w3.heap.size+1,0,none⟩) [⟨farm,y.num,D,N,p,R,TM,0,0⟩] from by
     have e:(w3.drew.alloc (.cells #[I O TM] 3)).heap.size=w3.heap.size+1:=by simp
     rw[← e]
     exact qD.lit (S:=SA) _ _ [⟨farm,y.num,D,N,p,R,TM,0,0⟩] (by show 1≤_;unfold maxLen;omega))
    have SI12:=mh (show qD SI ((w3.drew.alloc (.cells #[I O farm,I O y.num,I O D,I O N,I O p,I O R,I O TM,I O 0,I O 0] 91)).alloc (.cells #[I O TM] 3)) (some ⟨w3.heap.size+1,0,none⟩) [TM] from by
     have e:(w3.drew.alloc (.cells #[I O farm,I O y.num,I O D,I O N,I O p,I O R,I O TM,I O 0,I O 0] 91)).heap.size=w3.heap.size+1:=by simp
     rw[← e]
     exact qD.lit (S:=SI) _ _ [TM] (by show 1≤_;unfold maxLen;omega))
    have SI21:=mh (show qD SI ((w3.drew.alloc (.cells #[I O TM] 3)).alloc (.cells #[I O farm,I O y.num,I O D,I O N,I O p,I O R,I O TM,I O 0,I O 0] 91)) (some ⟨w3.heap.size,0,none⟩) [TM] from(qD.lit (S:=SI) w3.drew _ [TM] (by show 1≤_;unfold maxLen;omega)).below ((brf _ _).alloc mle _));have NV3:=mh (fun i (h:w3.heap.size≤i)=>show va.ownBlock≠some i from fun e=>by have:=(CM3.oa.lt e).2;omega);refine kD (fun w' => w'.cell? ⟨t,13,none⟩=some va∧w'.cell? ⟨w1.heap.size,0,none⟩=some (I O farm)∧w'.cell? ⟨w1.heap.size,1,none⟩=some (I O y.num)∧w'.cell? ⟨w1.heap.size,2,none⟩=some (I O D)∧w'.cell? ⟨w1.heap.size,3,none⟩=some (I O N)∧w'.cell? ⟨w1.heap.size,4,none⟩=some (I O p)∧w'.cell? ⟨w1.heap.size,5,none⟩=some (I O R)∧w'.cell? ⟨w1.heap.size,6,none⟩=some (I O TM)∧w'.cell? ⟨w1.heap.size,7,none⟩=some (I O 0)∧w'.cell? ⟨w1.heap.size,8,none⟩=some (I O 0)) 15 (by kernel_rfl) KD (fun hHeld=>?_);refine tkG 0 43 ?_;refine tkG 1 44 ?_;refine tkG 2 45 ?_;refine tkG 3 46 ?_;refine tkG 4 47 ?_;refine tkG 5 48 ?_;refine tkG 8 51 ?_ (m:=12);refine tkG 9 52 ?_ (m:=10);refine tkG 10 53 ?_;refine gL (i:=6) (j:=11) (o:=⟨some 49,_,_,_,_,_⟩) (p:=⟨some 54,_,_,_,_,_⟩) (by kernel_rfl) (by kernel_rfl) rfl rfl (fun K hK=>?_) (fun K hK=>?_)
    ·go_simp
     refine hK.out _ _ KX1 ?_
     clear hK K
     (try dsimp only[Act.put])
     try simp only[mnA,mnB,mnC]
     refine gL (i:=7) (j:=11) (o:=⟨some 50,_,_,_,_,_⟩) (p:=⟨some 54,_,_,_,_,_⟩) (by kernel_rfl) (by kernel_rfl) rfl rfl (fun K hK=>?_) (fun K hK=>?_)
     ·refine qX.stepAp gN (by rfl) (.tmp 47) (.tmp 49) (by rfl) (t+1) va (qW l f k) [⟨farm,y.num,D,N,p,R,TM,0,0⟩] (some ⟨w3.heap.size,0,none⟩) 1 1 rfl CA1.oa SR1 (fun h=>by cases h) (by rfl) (by rfl) (Nat.le_trans CM3.ac.lt B1.size) (by omega) (by decide) ?_
      intro v5 w5 hO5 hap5;obtain⟨p5,c5,rfl, -⟩:=hO5.cut (n:=(qW l f k).length+1) (by rw[lap];rfl);have CP5:=mh (CA1.appA hO5 hap5 mle);have HX5:=mh (show w5.heap[w1.heap.size]?=some (.cells #[I O farm,I O y.num,I O D,I O N,I O p,I O R,I O TM,I O 0,I O 0] 91) from(hap5.far _ (nll XL3 B1.size) (fun e=>NVA.out e)).trans ((B1.block _ XL3).trans HX3));have XL5:=mh (show w1.heap.size<w5.heap.size from(Array.getElem?_eq_some_iff.1 HX5).1);have KX5:=mh (KS _ _ CP5.ac HX5);clear hO5 hap5;refine hK.out _ _ KX5 ?_;clear hK K
      (try dsimp only[Act.put])
      try simp only[mnA,mnB,mnC]
      have BA5:=mh ((brf w5.heap.size w5).alloc mle (.cells #[I O TM] 3));have CP6:=mh (CP5.below BA5);have HX6:=mh ((BA5.block _ XL5).trans HX5);have SB6:=mh (show qD SI (w5.alloc (.cells #[I O TM] 3)) (some ⟨w5.heap.size,0,none⟩) [TM] from qD.lit (S:=SI) w5 _ [TM] (by show 1≤_;unfold maxLen;omega));have KX6:=mh (KS _ _ CP6.ac HX6);refine jM (i:=11) (o:=⟨some 54,_,_,_,_,_⟩) (by kernel_rfl) (by kernel_rfl) rfl (fun K hK=>?_);go_simp;refine hK.out _ _ KX6 ?_;clear hK K
      (try dsimp only[Act.put])
      try simp only[mnA,mnB,mnC]
      refine jM (i:=12) (o:=⟨some 55,_,_,_,_,_⟩) (by kernel_rfl) (by kernel_rfl) rfl (fun K hK=>?_)
      refine qX.stepAp xR (by rfl) (.tmp 51) (.tmp 54) (by rfl) (t+1) vt (qY (qW l f k)) [TM] (some ⟨w5.heap.size,0,none⟩) 1 1 rfl CP6.ot SB6 (fun h=>by cases h) (by rfl) (by rfl) CP6.ac.lt (by omega) (by decide) ?_
      intro v7 w7 hO7 hap7;obtain⟨p7,c7,rfl, -⟩:=hO7.cut (n:=(qY (qW l f k)).length+1) (by rw[lap];rfl);have CP7:=mh (CP6.appT hO7 hap7 mle);have HX7:=mh (show w7.heap[w1.heap.size]?=some (.cells #[I O farm,I O y.num,I O D,I O N,I O p,I O R,I O TM,I O 0,I O 0] 91) from(hap7.far _ (Array.getElem?_eq_some_iff.1 HX6).1 (fun e=>NVT.out e)).trans HX6);have KX7:=mh (KS _ _ CP7.ac HX7)
      have CMF:=mh (show gK w (w7.setCell ⟨t,13,none⟩ (.slice p5 ((qW l f k).length+1) c5)) t r rf (.slice p5 ((qW l f k).length+1) c5) vr1 (.slice p7 ((qY (qW l f k)).length+1) c7) (qW l f (k+1)) (xV l f (k+1) 0) (qY (qW l f (k+1))) from by
       rw[MORE.out,EAW.out,timelies_snoc]
       exact CP7.done)
      have u13:=CP7.ac.cell 13 _ rfl;have u13f:=CP7.ac.frozen 13;clear hO7 hap7;refine hK.out _ _ KX7 ?_;clear hK K
      (try dsimp only[Act.put])
      try simp only[mnA,mnB,mnC]
      refine tkG 13 56 ?_ (m:=14)
      refine tkG 14 57 ?_
      refine yJ (o:=⟨none,_,_,_,_,_⟩) (by kernel_rfl) rfl (fun K hK=>?_)
      go_simp
      refine hK.out _ _ ?_
      clear hK K
      (try dsimp only[Act.put])
      try simp only[mnA,mnB,mnC]
      have TT:True:=True.intro;refine wpAnyH_take (i:=16) (oi:=⟨some 3,_,_,_,_,_⟩) (v:=?vk2_16) rfl (by kernel_rfl) (by kernel_rfl) (by kernel_rfl) (fun _ _ _ h=>h) (Or.inl ⟨by kernel_rfl,?yk2_16⟩) (by assumption) ?rk2_16
      case yk2_16 =>
       intro W0 hSw;go_simp
       try with_reducible rfl
      simp only[Act.put,mnA,mnB,mnC];refine wpAnyH_done (by kernel_rfl) ?_ _
      go_wp2
      go_roundw
      case rel=>exact⟨k+1,_,vr1,_,by omega,by go_num,rfl,CMF.out⟩
      case measure=>simp[intOf];omega
     ·go_simp
      refine hK.out _ _ KX12 ?_
      clear hK K
      (try dsimp only[Act.put])
      try simp only[mnA,mnB,mnC]
      refine jM (i:=7) (o:=⟨some 50,_,_,_,_,_⟩) (by kernel_rfl) (by kernel_rfl) rfl (fun K hK=>?_)
      refine qX.stepAp gN (by rfl) (.tmp 47) (.tmp 49) (by rfl) (t+1) va (qW l f k) [⟨farm,y.num,D,N,p,R,TM,0,0⟩] (some ⟨w3.heap.size,0,none⟩) 1 1 rfl CA12.oa SR12 (fun h=>by cases h) (by rfl) (by rfl) (Nat.le_trans CM3.ac.lt B12.size) (by omega) (by decide) ?_
      intro v5 w5 hO5 hap5;obtain⟨p5,c5,rfl, -⟩:=hO5.cut (n:=(qW l f k).length+1) (by rw[lap];rfl);have CP5:=mh (CA12.appA hO5 hap5 mle);have HX5:=mh (show w5.heap[w1.heap.size]?=some (.cells #[I O farm,I O y.num,I O D,I O N,I O p,I O R,I O TM,I O 0,I O 0] 91) from(hap5.far _ (nll XL3 B12.size) (fun e=>NVA.out e)).trans ((B12.block _ XL3).trans HX3));have XL5:=mh (show w1.heap.size<w5.heap.size from(Array.getElem?_eq_some_iff.1 HX5).1);have SB5:=mh (qD.blocks (w' := w5) SI12 hap5.size fun a e => .inr (by cases e;exact hap5.far _ (by simp<;>omega) (NV3 _ (Nat.le_succ _))));have KX5:=mh (KS _ _ CP5.ac HX5);clear hO5 hap5;refine hK.out _ _ KX5 ?_;clear hK K
      (try dsimp only[Act.put])
      try simp only[mnA,mnB,mnC]
      have CP6:=mh CP5.out;have HX6:=mh HX5.out;have SB6:=mh SB5.out;refine jM (i:=12) (o:=⟨some 55,_,_,_,_,_⟩) (by kernel_rfl) (by kernel_rfl) rfl (fun K hK=>?_);refine qX.stepAp xR (by rfl) (.tmp 51) (.tmp 54) (by rfl) (t+1) vt (qY (qW l f k)) [TM] (some ⟨w3.heap.size+1,0,none⟩) 1 1 rfl CP6.ot SB6 (fun h=>by cases h) (by rfl) (by rfl) CP6.ac.lt (by omega) (by decide) ?_;intro v7 w7 hO7 hap7;obtain⟨p7,c7,rfl, -⟩:=hO7.cut (n:=(qY (qW l f k)).length+1) (by rw[lap];rfl);have CP7:=mh (CP6.appT hO7 hap7 mle);have HX7:=mh (show w7.heap[w1.heap.size]?=some (.cells #[I O farm,I O y.num,I O D,I O N,I O p,I O R,I O TM,I O 0,I O 0] 91) from(hap7.far _ (Array.getElem?_eq_some_iff.1 HX6).1 (fun e=>NVT.out e)).trans HX6);have KX7:=mh (KS _ _ CP7.ac HX7)
      have CMF:=mh (show gK w (w7.setCell ⟨t,13,none⟩ (.slice p5 ((qW l f k).length+1) c5)) t r rf (.slice p5 ((qW l f k).length+1) c5) vr1 (.slice p7 ((qY (qW l f k)).length+1) c7) (qW l f (k+1)) (xV l f (k+1) 0) (qY (qW l f (k+1))) from by
       rw[MORE.out,EAW.out,timelies_snoc]
       exact CP7.done)
      have u13:=CP7.ac.cell 13 _ rfl;have u13f:=CP7.ac.frozen 13;clear hO7 hap7;refine hK.out _ _ KX7 ?_;clear hK K
      (try dsimp only[Act.put])
      try simp only[mnA,mnB,mnC]
      refine tkG 13 56 ?_ (m:=14)
      refine tkG 14 57 ?_
      refine yJ (o:=⟨none,_,_,_,_,_⟩) (by kernel_rfl) rfl (fun K hK=>?_)
      go_simp
      refine hK.out _ _ ?_
      clear hK K
      (try dsimp only[Act.put])
      try simp only[mnA,mnB,mnC]
      have TT:True:=True.intro;refine wpAnyH_take (i:=16) (oi:=⟨some 3,_,_,_,_,_⟩) (v:=?vk3_16) rfl (by kernel_rfl) (by kernel_rfl) (by kernel_rfl) (fun _ _ _ h=>h) (Or.inl ⟨by kernel_rfl,?yk3_16⟩) (by assumption) ?rk3_16
      case yk3_16 =>
       intro W0 hSw;go_simp
       try with_reducible rfl
      simp only[Act.put,mnA,mnB,mnC];refine wpAnyH_done (by kernel_rfl) ?_ _
      go_wp2
      go_roundw
      case rel=>exact⟨k+1,_,vr1,_,by omega,by go_num,rfl,CMF.out⟩
      case measure=>simp[intOf];omega
    ·go_simp
     refine hK.out _ _ KX2 ?_
     clear hK K
     (try dsimp only[Act.put])
     try simp only[mnA,mnB,mnC]
     refine jM (i:=6) (o:=⟨some 49,_,_,_,_,_⟩) (by kernel_rfl) (by kernel_rfl) rfl (fun K hK=>?_)
     go_simp
     refine hK.out _ _ KX21 ?_
     clear hK K
     (try dsimp only[Act.put])
     try simp only[mnA,mnB,mnC]
     refine jM (i:=7) (o:=⟨some 50,_,_,_,_,_⟩) (by kernel_rfl) (by kernel_rfl) rfl (fun K hK=>?_)
     refine qX.stepAp gN (by rfl) (.tmp 47) (.tmp 49) (by rfl) (t+1) va (qW l f k) [⟨farm,y.num,D,N,p,R,TM,0,0⟩] (some ⟨w3.heap.size+1,0,none⟩) 1 1 rfl CA21.oa SR21 (fun h=>by cases h) (by rfl) (by rfl) (Nat.le_trans CM3.ac.lt B21.size) (by omega) (by decide) ?_
     intro v5 w5 hO5 hap5;obtain⟨p5,c5,rfl, -⟩:=hO5.cut (n:=(qW l f k).length+1) (by rw[lap];rfl);have CP5:=mh (CA21.appA hO5 hap5 mle);have HX5:=mh (show w5.heap[w1.heap.size]?=some (.cells #[I O farm,I O y.num,I O D,I O N,I O p,I O R,I O TM,I O 0,I O 0] 91) from(hap5.far _ (nll XL3 B21.size) (fun e=>NVA.out e)).trans ((B21.block _ XL3).trans HX3));have XL5:=mh (show w1.heap.size<w5.heap.size from(Array.getElem?_eq_some_iff.1 HX5).1);have SB5:=mh (qD.blocks (w' := w5) SI21 hap5.size fun a e => .inr (by cases e;exact hap5.far _ (by simp<;>omega) (NV3 _ mle)));have KX5:=mh (KS _ _ CP5.ac HX5);clear hO5 hap5;refine hK.out _ _ KX5 ?_;clear hK K
     (try dsimp only[Act.put])
     try simp only[mnA,mnB,mnC]
     have CP6:=mh CP5.out;have HX6:=mh HX5.out;have SB6:=mh SB5.out;refine jM (i:=12) (o:=⟨some 55,_,_,_,_,_⟩) (by kernel_rfl) (by kernel_rfl) rfl (fun K hK=>?_);refine qX.stepAp xR (by rfl) (.tmp 51) (.tmp 54) (by rfl) (t+1) vt (qY (qW l f k)) [TM] (some ⟨w3.heap.size,0,none⟩) 1 1 rfl CP6.ot SB6 (fun h=>by cases h) (by rfl) (by rfl) CP6.ac.lt (by omega) (by decide) ?_;intro v7 w7 hO7 hap7;obtain⟨p7,c7,rfl, -⟩:=hO7.cut (n:=(qY (qW l f k)).length+1) (by rw[lap];rfl);have CP7:=mh (CP6.appT hO7 hap7 mle);have HX7:=mh (show w7.heap[w1.heap.size]?=some (.cells #[I O farm,I O y.num,I O D,I O N,I O p,I O R,I O TM,I O 0,I O 0] 91) from(hap7.far _ (Array.getElem?_eq_some_iff.1 HX6).1 (fun e=>NVT.out e)).trans HX6);have KX7:=mh (KS _ _ CP7.ac HX7)
     have CMF:=mh (show gK w (w7.setCell ⟨t,13,none⟩ (.slice p5 ((qW l f k).length+1) c5)) t r rf (.slice p5 ((qW l f k).length+1) c5) vr1 (.slice p7 ((qY (qW l f k)).length+1) c7) (qW l f (k+1)) (xV l f (k+1) 0) (qY (qW l f (k+1))) from by
      rw[MORE.out,EAW.out,timelies_snoc]
      exact CP7.done)
     have u13:=CP7.ac.cell 13 _ rfl;have u13f:=CP7.ac.frozen 13;clear hO7 hap7;refine hK.out _ _ KX7 ?_;clear hK K
     (try dsimp only[Act.put])
     try simp only[mnA,mnB,mnC]
     refine tkG 13 56 ?_ (m:=14)
     refine tkG 14 57 ?_
     refine yJ (o:=⟨none,_,_,_,_,_⟩) (by kernel_rfl) rfl (fun K hK=>?_)
     go_simp
     refine hK.out _ _ ?_
     clear hK K
     (try dsimp only[Act.put])
     try simp only[mnA,mnB,mnC]
     have TT:True:=True.intro;refine wpAnyH_take (i:=16) (oi:=⟨some 3,_,_,_,_,_⟩) (v:=?vk4_16) rfl (by kernel_rfl) (by kernel_rfl) (by kernel_rfl) (fun _ _ _ h=>h) (Or.inl ⟨by kernel_rfl,?yk4_16⟩) (by assumption) ?rk4_16
     case yk4_16 =>
      intro W0 hSw;go_simp
      try with_reducible rfl
     simp only[Act.put,mnA,mnB,mnC];refine wpAnyH_done (by kernel_rfl) ?_ _
     go_wp2
     go_roundw
     case rel=>exact⟨k+1,_,vr1,_,by omega,by go_num,rfl,CMF.out⟩
     case measure=>simp[intOf];omega
  ·obtain rfl:k=l.sch.length:=by omega
   have hc' := hc;rw[xFA]at hc'; have HC:=mh (show gK w wo t r rf va vr vt (qC l f) (xN l f) (qY (qC l f)) from hc')
   have FEQ:=mh (show Ce.farmErr l.deg l.cap (qY (qC l f))=0→(Ce.farm l.deg l.cap (qY (qC l f))).length=(qC l f).length from fun h=>by
    rw[(Ce.fine_of h).farm_len];unfold qY;rw[List.length_map])
   clear hc hc' hk HCM hlt hk0;obtain⟨A,eA⟩:∃A,qC l f=A:=⟨_,rfl⟩;rw[eA]at HC FEQ ⊢;obtain⟨X,eX⟩:∃X,qY A=X:=⟨_,rfl⟩;rw[eX]at HC FEQ ⊢;obtain⟨R0,eR⟩:∃R,xN l f=R:=⟨_,rfl⟩;rw[eR]at HC;obtain⟨E,eE⟩:∃E,Ce.farmErr l.deg l.cap X=E:=⟨_,rfl⟩;obtain⟨C,eC⟩:∃C,Ce.farm l.deg l.cap X=C:=⟨_,rfl⟩;rw[eE,eC]at FEQ;obtain⟨pT,cT,eT, -, -, -, -,hrec⟩:=HC.ot.cut rfl;subst eT;have HRC:=mh hrec;have hcap:=HY.cap;have hgn:=HY.gn;have FN:=mh (fun (W:World) (hb:Below wo.heap.size wo W)=>eE▸eC▸kHA r.gp l.deg r.gc l.cap pT X cT W (HY.lowB (HC.low.trans (hb.mono (Nat.le_of_lt HC.ac.lt)))).deg (hrec.below hb).ints)
   have KD:=mh (show wo.drew.cell? ⟨t,5,none⟩=some (.slice r.gp l.deg.length r.gc)∧wo.drew.cell? ⟨t,6,none⟩=some (I O l.cap) from by
    have h:=HC.ac.below (brf _ _).drew HC.ac.lt;rw[← hgn,← hcap]
    exact⟨h.cell 5 _ rfl,h.cell 6 _ rfl⟩)
   have EER:=mh (show Ce.farmErr l.deg l.cap (qY (qC l f))=E from by rw[eA,eX,eE]);have EQS:=mh (show jT (qC l f) (Ce.farm l.deg l.cap (qY (qC l f)))=jT A C from by rw[eA,eX,eC]);have EQR:=mh eR;have HAL:=mh (show A.length≤16 from by rw[← eA];have:=awardsN_le l f l.sch.length;have:=HL.len;unfold qC;omega);clear eA eX eR eE eC hrec hcap hgn
   by_cases hE:E=0
   ·subst hE
    have hCA:=mh (FEQ rfl)
    have PST:=mh (fun (W:World) (vv vq:Value) (h1:zD W t r rf vv vq) (h2:qX SA W 91 (t+1) vv (jT A C)) (h3:qX SRn W 129 (t+1) vq R0) (h4:Below t w W)=>show CpG t r rf l f (Ce.farmErr l.deg l.cap (qY (qC l f))) w (.returned (I O 0)) W from
     ⟨by rw[EER.out],h4,fun _=>⟨vv,vq,h1,by rw[EQS.out];exact h2,by rw[EQR.out];exact h3⟩⟩)
    go_wp2_with fail
    go_region_held3 (fun w' => w'.cell? ⟨t,5,none⟩=some (.slice r.gp l.deg.length r.gc)∧w'.cell? ⟨t,6,none⟩=some (I O l.cap)) (first|with_reducible exact KD.out|with_reducible exact K5.out|go_keep) (first|(go_at_call 101;(with_reducible refine cmo (FN.out _ (brf _ _).drew) ?_);rintro e w5 ⟨pF,cF,rfl,hI,hb5,hnw⟩;have HC5:=mh ((HC.below (brf _ _).drew).below hb5);have HI5:=mh hI;have HS5:=mh (show wo.heap.size≤w5.heap.size from hb5.size);have NW5:=mh (show ∀a,pF=some a→wo.heap.size≤a.block from hnw);have K5:=mh (show w5.cell? ⟨t,5,none⟩=some (.slice r.gp l.deg.length r.gc)∧w5.cell? ⟨t,6,none⟩=some (I O l.cap) from⟨(hb5.cell (p:=⟨t,5,none⟩) HC.ac.lt).trans KD.1,(hb5.cell (p:=⟨t,6,none⟩) HC.ac.lt).trans KD.2⟩);clear hI hb5 hnw)|fail)
    obtain⟨nA,enA⟩:∃n,C.length=n:=⟨_,rfl⟩;have HNA:=mh (show A.length=nA from by rw[← hCA.out,enA]);have HNC:=mh enA;have hnA:nA≤16:=by have:=HNA.out;have:=HAL.out;omega
    have CP:=mh (show Cp2 w w5 t wo.heap.size r rf va vr A R0 pF C 0 from
     ⟨HC5.ac,by rw[capN_zero];exact HC5.oa,HC5.or,HC5.low,HI5.out,HS5.out,fun g hg=>(HC.oa.lt hg).2,NW5.out,HC5.d1⟩)
    rw[enA];clear K5 KD enA
    go_wp2
    go_loopw [79] (fun i wr=>∃j:Nat,j≤nA∧i=I O j∧Cp2 w wr t wo.heap.size r rf va vr A R0 pF C j) (fun i _=>nA - (intOf i).toNat)
    case atStart=>exact⟨0,Nat.zero_le _,rfl,CP.out⟩
    case round =>
     obtain⟨wo2,rfl⟩:∃wo2:World,wo2=wr:=⟨_,rfl⟩;obtain⟨j,hj,rfl,hp⟩:=hrel;have HP:=mh hp;clear hp CP;have hj0:(0:Int)≤(j:Int):=inn _
     by_cases hlt:j<nA
     ·have hj1:(j:Int)<(nA:Int):=by omega
      obtain⟨b,off,x,rfl,hb,hcx,hx⟩:=HP.ints.get (show j<C.length by rw[HNC.out];exact hlt);obtain⟨g,c,u,rfl,h7,f7,hset⟩:=HP.set HNA hlt;rw[hx.out]at hset;have HSET:=mh hset;have k13:=HP.ac.cell 13 _ rfl;clear hset hx hb
      go_wp2
      go_roundw
      case rel=>exact⟨j+1,by omega,by go_num,HSET.out⟩
      case measure=>simp[intOf];omega
     ·obtain rfl:j=nA:=by omega
      clear hlt
      go_wp2
      go_ret
      exact PST _ _ _ HP.ac (by rw[← capN_all,HNA.out];exact HP.oa) HP.or HP.low
   ·have hne:(E != 0)=true:=by simpa using hE
    have HNE:=mh hE;clear hE
    go_wp2_with fail
    go_region_held3 (fun w' => w'.cell? ⟨t,5,none⟩=some (.slice r.gp l.deg.length r.gc)∧w'.cell? ⟨t,6,none⟩=some (I O l.cap)) (first|with_reducible exact KD.out|with_reducible exact K5.out|go_keep) (first|(go_at_call 101;(with_reducible refine cmo (FN.out _ (brf _ _).drew) ?_);rintro e w5 ⟨pF,cF,rfl,hI,hb5,hnw⟩;have HC5:=mh ((HC.below (brf _ _).drew).below hb5);have HI5:=mh hI;have HS5:=mh (show wo.heap.size≤w5.heap.size from hb5.size);have NW5:=mh (show ∀a,pF=some a→wo.heap.size≤a.block from hnw);have K5:=mh (show w5.cell? ⟨t,5,none⟩=some (.slice r.gp l.deg.length r.gc)∧w5.cell? ⟨t,6,none⟩=some (I O l.cap) from⟨(hb5.cell (p:=⟨t,5,none⟩) HC.ac.lt).trans KD.1,(hb5.cell (p:=⟨t,6,none⟩) HC.ac.lt).trans KD.2⟩);clear hI hb5 hnw)|fail)
    go_wp2
    go_ret
    exact⟨by rw[EER.out];rfl,HC5.low,fun h=>absurd (EER.symm.trans h) HNE.out⟩
end Go.Proofs.YtefcalgjnkigjaaGreat
