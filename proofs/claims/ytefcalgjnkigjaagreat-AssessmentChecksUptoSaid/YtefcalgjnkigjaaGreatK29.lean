/- Packed. -/
import Derived.Test.YtefcalgjnkigjaaGreatK28
set_option maxRecDepth 100000
set_option maxHeartbeats 8000000
open Go.Value renaming int → I
open Go.IntKind renaming i64 → O
namespace Go.Proofs.YtefcalgjnkigjaaGreat
open Go.RowKit Sc As
theorem frm34_any {Q Q2:Nat→Prop}(d:Nat)(r:RY)(l:YLaw)(rf:RF)(f:FarmF)(w:World)(h:YV Q w d r l)(hF:FV Q2 w rf f) :
  Calls Tryz.prog 24 #[.agg (yCells r).toArray,.agg (fCells rf).toArray] w (FrG l f w):=by
 have HB:=mh (show Below w.heap.size w (((w.alloc (.cells #[.slice r.sp r.sn r.sc,.slice r.tp r.tn r.tc,I O r.due,I O r.last,I O r.mille,.slice r.gp r.gn r.gc,I O r.cap,I O r.env,I O r.unit,I O r.width] 29)).alloc (.cells #[I O rf.farm,I O rf.day,.slice rf.lp rf.ln rf.lc] 47)).alloc (.cells #[I O rf.farm,I O rf.day,.slice rf.lp rf.ln rf.lc] 47)) from balloc mle (balloc mle (balloc mle (brf w.heap.size w) _) _) _);have HY:=mh (h.below HB.out);have HF2:=mh (hF.below HB.out)
 have FA:=mh (show Calls Tryz.prog 15 #[.agg (yCells r).toArray,.slice (some ⟨((w.alloc (.cells #[.slice r.sp r.sn r.sc,.slice r.tp r.tn r.tc,I O r.due,I O r.last,I O r.mille,.slice r.gp r.gn r.gc,I O r.cap,I O r.env,I O r.unit,I O r.width] 29)).alloc (.cells #[I O rf.farm,I O rf.day,.slice rf.lp rf.ln rf.lc] 47)).heap.size,0,none⟩) 1 1] (((w.alloc (.cells #[.slice r.sp r.sn r.sc,.slice r.tp r.tn r.tc,I O r.due,I O r.last,I O r.mille,.slice r.gp r.gn r.gc,I O r.cap,I O r.env,I O r.unit,I O r.width] 29)).alloc (.cells #[I O rf.farm,I O rf.day,.slice rf.lp rf.ln rf.lc] 47)).alloc (.cells #[I O rf.farm,I O rf.day,.slice rf.lp rf.ln rf.lc] 47)) (IntG (chkF l [f]) (((w.alloc (.cells #[.slice r.sp r.sn r.sc,.slice r.tp r.tn r.tc,I O r.due,I O r.last,I O r.mille,.slice r.gp r.gn r.gc,I O r.cap,I O r.env,I O r.unit,I O r.width] 29)).alloc (.cells #[I O rf.farm,I O rf.day,.slice rf.lp rf.ln rf.lc] 47)).alloc (.cells #[I O rf.farm,I O rf.day,.slice rf.lp rf.ln rf.lc] 47))) from
  facts34_any d r l _ [f] 1 _ HY.out HY.out.sc (FsAt.one ((hF.any).below (balloc mle (balloc mle (brf w.heap.size w) _) _)) _))
 have BY:=mh (show(((w.alloc (.cells #[.slice r.sp r.sn r.sc,.slice r.tp r.tn r.tc,I O r.due,I O r.last,I O r.mille,.slice r.gp r.gn r.gc,I O r.cap,I O r.env,I O r.unit,I O r.width] 29)).alloc (.cells #[I O rf.farm,I O rf.day,.slice rf.lp rf.ln rf.lc] 47)).alloc (.cells #[I O rf.farm,I O rf.day,.slice rf.lp rf.ln rf.lc] 47)).heap[w.heap.size]?=some (.cells #[.slice r.sp r.sn r.sc,.slice r.tp r.tn r.tc,I O r.due,I O r.last,I O r.mille,.slice r.gp r.gn r.gc,I O r.cap,I O r.env,I O r.unit,I O r.width] 29) from by
  rw[(((brf (w.alloc (.cells #[.slice r.sp r.sn r.sc,.slice r.tp r.tn r.tc,I O r.due,I O r.last,I O r.mille,.slice r.gp r.gn r.gc,I O r.cap,I O r.env,I O r.unit,I O r.width] 29)).heap.size (w.alloc (.cells #[.slice r.sp r.sn r.sc,.slice r.tp r.tn r.tc,I O r.due,I O r.last,I O r.mille,.slice r.gp r.gn r.gc,I O r.cap,I O r.env,I O r.unit,I O r.width] 29))).alloc mle (.cells #[I O rf.farm,I O rf.day,.slice rf.lp rf.ln rf.lc] 47)).alloc (by simp) (.cells #[I O rf.farm,I O rf.day,.slice rf.lp rf.ln rf.lc] 47)).block w.heap.size (by simp)]
  exact Array.getElem?_push_size)
 have BF:=mh (show(((w.alloc (.cells #[.slice r.sp r.sn r.sc,.slice r.tp r.tn r.tc,I O r.due,I O r.last,I O r.mille,.slice r.gp r.gn r.gc,I O r.cap,I O r.env,I O r.unit,I O r.width] 29)).alloc (.cells #[I O rf.farm,I O rf.day,.slice rf.lp rf.ln rf.lc] 47)).alloc (.cells #[I O rf.farm,I O rf.day,.slice rf.lp rf.ln rf.lc] 47)).heap[w.heap.size+1]?=some (.cells #[I O rf.farm,I O rf.day,.slice rf.lp rf.ln rf.lc] 47) from by
  have e:(w.alloc (.cells #[.slice r.sp r.sn r.sc,.slice r.tp r.tn r.tc,I O r.due,I O r.last,I O r.mille,.slice r.gp r.gn r.gc,I O r.cap,I O r.env,I O r.unit,I O r.width] 29)).heap.size=w.heap.size+1:=by simp
  rw[((brf ((w.alloc (.cells #[.slice r.sp r.sn r.sc,.slice r.tp r.tn r.tc,I O r.due,I O r.last,I O r.mille,.slice r.gp r.gn r.gc,I O r.cap,I O r.env,I O r.unit,I O r.width] 29)).alloc (.cells #[I O rf.farm,I O rf.day,.slice rf.lp rf.ln rf.lc] 47)).heap.size ((w.alloc (.cells #[.slice r.sp r.sn r.sc,.slice r.tp r.tn r.tc,I O r.due,I O r.last,I O r.mille,.slice r.gp r.gn r.gc,I O r.cap,I O r.env,I O r.unit,I O r.width] 29)).alloc (.cells #[I O rf.farm,I O rf.day,.slice rf.lp rf.ln rf.lc] 47))).alloc mle (.cells #[I O rf.farm,I O rf.day,.slice rf.lp rf.ln rf.lc] 47)).block (w.heap.size+1) (by simp),← e]
  exact Array.getElem?_push_size)
 simp only[yCells]at FA ⊢;simp only[fCells];clear h hF;obtain⟨c,ec⟩:∃c,chkF l [f]=c:=⟨_,rfl⟩;rw[ec]at FA;have EC:=mh ec;clear ec;have e2:((w.alloc (.cells #[.slice r.sp r.sn r.sc,.slice r.tp r.tn r.tc,I O r.due,I O r.last,I O r.mille,.slice r.gp r.gn r.gc,I O r.cap,I O r.env,I O r.unit,I O r.width] 29)).alloc (.cells #[I O rf.farm,I O rf.day,.slice rf.lp rf.ln rf.lc] 47)).heap.size=w.heap.size+2:=by simp
 rw[e2]at FA;clear e2
 by_cases hc:c=0
 rotate_left
 ·have hne:(c != 0)=true:=by simpa using hc
  have HNE:=mh hc;have ER:=mh (show farmErr l f=c from by unfold farmErr;rw[EC.out,if_pos hc]);clear hc
  go_enter Tryz.func24,Tryz.ntmps24
  go_wp2_with (go_at_call 15;(with_reducible refine cmo FA.out ?_);rintro e w1 ⟨rfl,hb1⟩;have HB1:=mh (bstep mle HB.out hb1);clear hb1)
  exact bodyPost_ret (v := .tuple #[.slice none 0 0,.slice none 0 0,I O c]) (by simp[results,Tryz.results24,go_sem]) rfl (FrG.err ER.out HNE.out HB1.out)
 subst hc;have FO:=mh (fOk EC.out);have ER:=mh (show farmErr l f=Ce.farmErr l.deg l.cap (timelies (awards0 l f)) from by unfold farmErr;rw[EC.out,if_neg (by simp)]);obtain⟨E,eE⟩:∃E,Ce.farmErr l.deg l.cap (timelies (awards0 l f))=E:=⟨_,rfl⟩;have EE:=mh eE
 have CP:=mh (fun (W:World) (hb:Below (((w.alloc (.cells #[.slice r.sp r.sn r.sc,.slice r.tp r.tn r.tc,I O r.due,I O r.last,I O r.mille,.slice r.gp r.gn r.gc,I O r.cap,I O r.env,I O r.unit,I O r.width] 29)).alloc (.cells #[I O rf.farm,I O rf.day,.slice rf.lp rf.ln rf.lc] 47)).alloc (.cells #[I O rf.farm,I O rf.day,.slice rf.lp rf.ln rf.lc] 47)).heap.size (((w.alloc (.cells #[.slice r.sp r.sn r.sc,.slice r.tp r.tn r.tc,I O r.due,I O r.last,I O r.mille,.slice r.gp r.gn r.gc,I O r.cap,I O r.env,I O r.unit,I O r.width] 29)).alloc (.cells #[I O rf.farm,I O rf.day,.slice rf.lp rf.ln rf.lc] 47)).alloc (.cells #[I O rf.farm,I O rf.day,.slice rf.lp rf.ln rf.lc] 47)) W)=>show Calls Tryz.prog 64 #[.pointer (some ⟨W.heap.size,0,none⟩)] (W.alloc (.cells #[.slice r.sp r.sn r.sc,.slice r.tp r.tn r.tc,I O r.due,I O r.last,I O r.mille,.slice r.gp r.gn r.gc,I O r.cap,I O r.env,I O r.unit,I O r.width,I O rf.farm,I O rf.day,.slice rf.lp rf.ln rf.lc,.slice none 0 0,.slice none 0 0] 118)) (CpG W.heap.size r rf l f E (W.alloc (.cells #[.slice r.sp r.sn r.sc,.slice r.tp r.tn r.tc,I O r.due,I O r.last,I O r.mille,.slice r.gp r.gn r.gc,I O r.cap,I O r.env,I O r.unit,I O r.width,I O rf.farm,I O rf.day,.slice rf.lp rf.ln rf.lc,.slice none 0 0,.slice none 0 0] 118))) from by
  have hA:=(brf W.heap.size W).alloc mle (.cells #[.slice r.sp r.sn r.sc,.slice r.tp r.tn r.tc,I O r.due,I O r.last,I O r.mille,.slice r.gp r.gn r.gc,I O r.cap,I O r.env,I O r.unit,I O r.width,I O rf.farm,I O rf.day,.slice rf.lp rf.ln rf.lc,.slice none 0 0,.slice none 0 0] 118)
  exact eE▸compute34_any d W.heap.size r l rf f (W.alloc (.cells #[.slice r.sp r.sn r.sc,.slice r.tp r.tn r.tc,I O r.due,I O r.last,I O r.mille,.slice r.gp r.gn r.gc,I O r.cap,I O r.env,I O r.unit,I O r.width,I O rf.farm,I O rf.day,.slice rf.lp rf.ln rf.lc,.slice none 0 0,.slice none 0 0] 118)) (AcAt.box W r rf (.slice none 0 0) (.slice none 0 0)) (((HY.out.below hb).lt).change hA.size fun b q hl=>⟨hA.block b q,q⟩) (((HF2.out.below hb).lt).change hA.size fun b q hl=>⟨hA.block b q,q⟩) FO.out.law (FO.out.farm f List.mem_cons_self))
 clear eE;have EF:=mh (show farmErr l f=E from ER.out.trans EE.out)
 by_cases hE:E=0
 ·subst hE
  have EA:=mh (show farmAw l f=setCapped (awards0 l f) (Ce.farm l.deg l.cap (timelies (awards0 l f))) from by unfold farmAw;rw[if_neg (by rw[EF.out];simp)]);have ES:=mh (show farmRs l f=reasons0 l f from by unfold farmRs;rw[if_neg (by rw[EF.out];simp)])
  go_enter Tryz.func24,Tryz.ntmps24
  go_wp2_with (first
   | (go_at_call 15;(with_reducible refine cmo FA.out ?_);rintro e w1 ⟨rfl,hb1⟩;have HB0:=mh hb1;have HB1:=mh (bstep mle HB.out hb1);have B1:=mh (Blk.below BY.out hb1);have B2:=mh (Blk.below BF.out hb1);have y0:=B1.out.cell 0;have y1:=B1.out.cell 1;have y2:=B1.out.cell 2;have y3:=B1.out.cell 3;have y4:=B1.out.cell 4;have y5:=B1.out.cell 5;have y6:=B1.out.cell 6;have y7:=B1.out.cell 7;have y8:=B1.out.cell 8;have y9:=B1.out.cell 9;have f0:=B2.out.cell 0;  have f1:=B2.out.cell 1;  have f2:=B2.out.cell 2;clear hb1)
   | (go_at_call 64;(with_reducible refine cmo (CP.out _ HB0.out) ?_);rintro e w2 hcp;have HCP:=mh hcp;obtain⟨rfl, -, -⟩:=hcp)|fail)
  obtain⟨-,hlow,hfin⟩:=HCP.out;obtain⟨va,vr,hac,hoa,hor⟩:=hfin rfl;have HAC:=mh hac;have HOA:=mh hoa;have HOR:=mh hor;have HLW:=mh hlow;have a13:=hac.cell 13 _ rfl;have a14:=hac.cell 14 _ rfl;clear hlow hfin hac hoa hor
  go_quiet (fail)
  go_wp2
  refine bodyPost_ret (v := .tuple #[va,vr,I O 0]) (by simp[results,Tryz.results24,go_sem]) rfl ⟨va,vr,by rw[EF.out],?_,?_,?_⟩
  ·rw[EA.out]
   exact(HOA.out.mono (by have:=HB1.out.size;omega)).below (drewN_below _ _)
  ·rw[ES.out]
   exact(HOR.out.mono (by have:=HB1.out.size;omega)).below (drewN_below _ _)
  ·refine bnext (HB1.out.trans ?_) ?_ (drewN_below _ _)
   ·exact(((brf w1.heap.size w1).alloc mle (.cells #[.slice r.sp r.sn r.sc,.slice r.tp r.tn r.tc,I O r.due,I O r.last,I O r.mille,.slice r.gp r.gn r.gc,I O r.cap,I O r.env,I O r.unit,I O r.width,I O rf.farm,I O rf.day,.slice rf.lp rf.ln rf.lc,.slice none 0 0,.slice none 0 0] 118)).trans HLW.out).mono HB1.out.size
   ·have h1:=HLW.out.size;have h2:=HB1.out.size;rw[World.size_alloc]at h1;omega
 ·have hne:(E != 0)=true:=by simpa using hE
  have HNE:=mh hE;clear hE
  go_enter Tryz.func24,Tryz.ntmps24
  go_wp2_with (first
   | (go_at_call 15;(with_reducible refine cmo FA.out ?_);rintro e w1 ⟨rfl,hb1⟩;have HB0:=mh hb1;have HB1:=mh (bstep mle HB.out hb1);have B1:=mh (Blk.below BY.out hb1);have B2:=mh (Blk.below BF.out hb1);have y0:=B1.out.cell 0;have y1:=B1.out.cell 1;have y2:=B1.out.cell 2;have y3:=B1.out.cell 3;have y4:=B1.out.cell 4;have y5:=B1.out.cell 5;have y6:=B1.out.cell 6;have y7:=B1.out.cell 7;have y8:=B1.out.cell 8;have y9:=B1.out.cell 9;have f0:=B2.out.cell 0;  have f1:=B2.out.cell 1;  have f2:=B2.out.cell 2;clear hb1)
   | (go_at_call 64;(with_reducible refine cmo (CP.out _ HB0.out) ?_);rintro e w2 hcp;have HCP:=mh hcp;obtain⟨rfl, -, -⟩:=hcp)|fail)
  exact bodyPost_ret (v := .tuple #[.slice none 0 0,.slice none 0 0,I O E]) (by simp[results,Tryz.results24,go_sem]) rfl (FrG.err EF.out HNE.out (HB1.out.trans ((((brf w1.heap.size w1).alloc mle (.cells #[.slice r.sp r.sn r.sc,.slice r.tp r.tn r.tc,I O r.due,I O r.last,I O r.mille,.slice r.gp r.gn r.gc,I O r.cap,I O r.env,I O r.unit,I O r.width,I O rf.farm,I O rf.day,.slice rf.lp rf.ln rf.lc,.slice none 0 0,.slice none 0 0] 118)).trans HCP.out.2.1).mono HB1.out.size)))
theorem scale_new (e u:Int)(p:Option Addr)(l:List Int)(cap:Nat)(w:World)(h:Ints w p l) :
  Calls Tryz.prog 60 #[I O e,I O u,.slice p l.length cap] w (GivesNew w (En.scale e u l) (En.err e u l)):=by
 by_cases hg:En.err e u l=0
 ·have:=scale_good e u p l cap w h hg
  rw[hg];exact this
 ·exact scale_bad e u p l cap w h hg
theorem assess34_any {Q Q2:Nat→Prop}(d:Nat)(r:RY)(l:YLaw)(p:Option Addr)(F:List FarmF)(cap:Nat)(w:World)(h:YV Q w d r l)(hF:FsAt Q2 w p F) :
  Calls Tryz.prog 17 #[.agg (yCells r).toArray,.slice p F.length cap] w (AsG l F w):=by
 have hlen:=hF.len;have HB:=mh (balloc mle (brf w.heap.size w) (.cells #[.slice r.sp r.sn r.sc,.slice r.tp r.tn r.tc,I O r.due,I O r.last,I O r.mille,.slice r.gp r.gn r.gc,I O r.cap,I O r.env,I O r.unit,I O r.width] 29));have FA:=mh (facts34_any d r l p F cap (w.alloc (.cells #[.slice r.sp r.sn r.sc,.slice r.tp r.tn r.tc,I O r.due,I O r.last,I O r.mille,.slice r.gp r.gn r.gc,I O r.cap,I O r.env,I O r.unit,I O r.width] 29)) (h.below HB.out) h.sc (hF.below HB.out));have FR:=mh (fun (W:World) (hb:Below w.heap.size w W) (y:RF) (f:FarmF) (W' : World) (hb' : Below W.heap.size W W') (hv:FV Q2 W y f)=>frm34_any d r l y f W' ((h.below hb).below hb') (hv.below hb'));have HF:=mh hF;have BY:=mh (Blk.new w #[.slice r.sp r.sn r.sc,.slice r.tp r.tn r.tc,I O r.due,I O r.last,I O r.mille,.slice r.gp r.gn r.gc,I O r.cap,I O r.env,I O r.unit,I O r.width] 29);have HRE:=mh (And.intro h.env h.unit);simp only[yCells]at FA FR ⊢;clear h hF;obtain⟨c,ec⟩:∃c,chkF l F=c:=⟨_,rfl⟩;rw[ec]at FA;have EC:=mh ec;clear ec
 by_cases hc:c=0
 rotate_left
 ·have hne:(c != 0)=true:=by simpa using hc
  have ER:=mh (show assErr l F=c from by unfold assErr;rw[EC.out,if_pos hc]);have HNE:=mh hc;clear hc
  go_enter Tryz.func17,Tryz.ntmps17
  go_wp2_with (go_at_call 15;(with_reducible refine cmo FA.out ?_);rintro e w1 ⟨rfl,hb1⟩;have HB1:=mh (bstep mle HB.out hb1);clear hb1)
  go_ret2
  exact AsG.err ER.out HNE.out HB1.out
 subst hc;have FO:=mh (fOk EC.out);have hF10:=FO.out.len;have NE0:((0:Int) != 0)=false:=by decide
 go_enter Tryz.func17,Tryz.ntmps17
 go_wp2_with (go_at_call 15;(with_reducible refine cmo FA.out ?_);rintro e w1 ⟨rfl,hb1⟩;have HB1:=mh (bstep mle HB.out hb1);have BY1:=mh (BY.out.below hb1);clear hb1)
 go_loopw [7,28] (fun out i W=>∃k:Nat,k≤F.length∧i=I O k∧allErr l (F.take k)=0∧OwnR SA W 91 w1.heap.size out (allAw l (F.take k))∧Below w1.heap.size w1 W) (fun _ i _=>F.length - (intOf i).toNat)
 case atStart=>exact⟨0,Nat.zero_le _,rfl,rfl,OwnR.nil _ _ _,brf _ _⟩
 case round =>
  obtain⟨wo,rfl⟩:∃wo:World,wo=wr:=⟨_,rfl⟩;obtain⟨k,hk,rfl,her,hO,hb⟩:=hrel;have HO:=mh hO;have HER:=mh her;have HBO:=mh hb;have HWO:=mh (show Below w.heap.size w wo from HB1.out.trans (hb.mono HB1.out.size));have hk0:(0:Int)≤(k:Int):=inn _;clear hO her
  by_cases hlt:k<F.length
  ·have hk1:(k:Int)<(F.length:Int):=by omega
   have BYO:=mh (Blk.below BY1.out (hb.mono mle));obtain⟨b,off,⟨fa,da,lp,ln,lc⟩,rfl,hbl,⟨c0,c1,c2⟩,hv⟩:=(HF.out.below HWO.out).at hlt;simp only at c0 c1 c2;have ST:=mh (tsg hlt)
   have HLE:=mh (show(allAw l (F.take k)).length≤160∧(farmAw l F[k]).length≤16 from by
    have h1:=allAw_le l (F.take k);have h2:=farmAw_le l F[k];have h3:=FO.out.law.len;have h4:(F.take k).length≤10:=by rw[List.length_take];omega
    have h5:(F.take k).length*l.sch.length≤10*16:=Nat.mul_le_mul h4 h3
    omega)
   have BAD:=mh (fun h=>allErr_bad (l:=l) hlt HER.out h);obtain⟨f,ef⟩:∃f,F[k]=f:=⟨_,rfl⟩;rw[ef]at hv ST HLE BAD;have hba:=(brf wo.heap.size wo).alloc mle (.cells #[I O fa,I O da,.slice lp ln lc] 47);have FRc:=mh (FR.out wo HWO.out ⟨fa,da,lp,ln,lc⟩ f (wo.alloc (.cells #[I O fa,I O da,.slice lp ln lc] 47)) hba hv);simp only[fCells]at FRc;have B2:=mh (BYO.out.below hba);have y0:=B2.out.cell 0;have y1:=B2.out.cell 1;have y2:=B2.out.cell 2;have y3:=B2.out.cell 3;have y4:=B2.out.cell 4;have y5:=B2.out.cell 5;have y6:=B2.out.cell 6;have y7:=B2.out.cell 7;have y8:=B2.out.cell 8;have y9:=B2.out.cell 9;have HO2:=mh (HO.out.below hba);have HB2:=mh (hb.trans (hba.mono hb.size));unfold FrG at FRc;obtain⟨E,eE⟩:∃E,farmErr l f=E:=⟨_,rfl⟩;rw[eE]at FRc BAD;have EE:=mh eE;clear hv ef hba eE hbl hb
   by_cases hE:E=0
   ·subst hE
    go_wp2_with (first|(go_at_call 24;(with_reducible refine cmo FRc.out ?_);rintro e w3 ⟨va,vr,rfl,hoa,hor,hb3⟩;obtain⟨pa,ca,rfl,hpn, -, -, -,hra⟩:=hoa.cut rfl;have HRA:=mh hra;have HPN:=mh (fun e=>(hpn e).1);have HO3:=mh (HO2.out.below hb3);have HB3:=mh (HB2.out.trans (hb3.mono HB2.out.size));clear hoa hor hb3 hpn hra)|(at_builtin;(refine OwnR.appendAll el_awd rfl (.tmp 42) (.tmp 43) rfl w1.heap.size _ (allAw l (F.take k)) (farmAw l f) pa ca (farmAw l f).length rfl HO3.out HRA.out HPN.out rfl rfl HB3.out.size (by have:=HLE.out;omega) (by decide) ?_);intro v5 w5 hO5 hap5;have HO5:=mh hO5;have HB5:=mh (HB3.out.trans hap5.below);clear hO5 hap5)|fail)
    go_roundw
    case rel=>exact⟨k+1,by omega,by go_num,by rw[ST.out,allErr_snoc _ HER.out,EE.out],by rw[ST.out,allAw_snoc];exact HO5.out,HB5.out⟩
    case measure=>simp[intOf];omega
   ·have hne:(E != 0)=true:=by simpa using hE
    have HNE:=mh hE;clear hE;have ER:=mh (show assErr l F=E from by unfold assErr;rw[EC.out,if_neg (by simp),BAD.out HNE.out,if_pos HNE.out])
    go_wp2_with (go_at_call 24;(with_reducible refine cmo FRc.out ?_);rintro e w3 ⟨va,vr,rfl, -, -,hb3⟩;have HB3:=mh (HB2.out.trans (hb3.mono HB2.out.size));clear hb3)
    go_ret2
    exact AsG.err ER.out HNE.out (HB1.out.trans (HB3.out.mono HB1.out.size))
  ·obtain rfl:k=F.length:=by omega
   rw[List.take_length]at HER HO;obtain⟨po,co,rfl,hpo,hpb, -, -,hro⟩:=HO.out.cut rfl;have HRO:=mh hro
   have HLE:=mh (show(allAw l F).length≤160 from by
    have h1:=allAw_le l F;have h3:=FO.out.law.len;have h5:F.length*l.sch.length≤10*16:=Nat.mul_le_mul hF10 h3
    omega)
   have HPB:=mh (fun x e=>(hpb x e).2.2.2);clear hro hpo hpb hk hlt hk0
   by_cases h64:64<(allAw l F).length
   ·have ER:=mh (show assErr l F=1 from by unfold assErr;rw[EC.out,if_neg (by simp),HER.out,if_neg (by simp),if_pos h64])
    have h64i:(64:Int)<((allAw l F).length:Int):=by omega
    clear h64
    go_wp2
    go_ret2
    exact AsG.err ER.out (by decide) HWO.out
   ·have G:=all_good FO.out (show(allAw l F).length≤64 by omega)
    have GE:=En.err_of G;have GL:=G.keeps.len;have ER:=mh (show assErr l F=0 from by unfold assErr;rw[EC.out,if_neg (by simp),HER.out,if_neg (by simp),if_neg h64];exact GE);have EA:=mh (show assess l F=setDue (allAw l F) (En.scale l.env l.unit (cappeds (allAw l F))) from by unfold assess;rw[if_neg (by rw[ER.out];simp)]);have h64i:¬(64:Int)<((allAw l F).length:Int):=by omega
    obtain⟨A,eA⟩:∃A,allAw l F=A:=⟨_,rfl⟩;rw[eA]at HO HRO HLE h64i EA GE GL ⊢;have CL:(cappeds A).length=A.length:=by unfold cappeds;simp
    obtain⟨C,eC⟩:∃C,En.scale l.env l.unit (cappeds A)=C:=⟨_,rfl⟩;rw[eC]at EA GL;obtain⟨n,en⟩:∃n,A.length=n:=⟨_,rfl⟩;have HNA:=mh en;have HNC:=mh (show C.length=n from by rw[GL,CL,en]);have hn64:n≤64:=by omega
    have SCL:=mh (fun (W:World) (q:Option Addr) (cq:Nat) (hq:Ints W q (cappeds A))=>show Calls Tryz.prog 60 #[I O r.env,I O r.unit,.slice q n cq] W (GivesNew W C 0) from by
     have:=scale_new r.env r.unit q (cappeds A) cq W hq;rw[HRE.out.1,HRE.out.2,eC,GE,CL,en]at this;rw[HRE.out.1,HRE.out.2]
     exact this)
    rw[en]at h64i HO ⊢;clear h64 G GE GL eA eC CL en;have YO:=mh (Blk.below BY1.out (HBO.out.mono mle))
    go_wp2
    go_loopw [8,51] (fun cv i W=>∃k:Nat,k≤n∧i=I O k∧OwnR SI W 3 wo.heap.size cv (cappeds (A.take k))∧Below wo.heap.size wo W) (fun _ i _=>n - (intOf i).toNat)
    case atStart=>exact⟨0,Nat.zero_le _,rfl,OwnR.nil _ _ _,brf _ _⟩
    case round =>
     obtain⟨wp,rfl⟩:∃wp:World,wp=wr:=⟨_,rfl⟩;obtain⟨k,hk,rfl,hC,hb2⟩:=hrel;have HC:=mh hC;have HB2:=mh hb2;have hk0:(0:Int)≤(k:Int):=inn _;clear hC hb2
     by_cases hlt:k<n
     ·have hk1:(k:Int)<(n:Int):=by omega
      have hkA:k<A.length:=by rw[HNA.out];exact hlt
      obtain⟨b,off,rfl,hbl,⟨c0,c1,c2,c3,c4,c5,c6,c7,c8⟩⟩:=SA_at (HRO.out.below HB2.out) hkA
      have ST:=mh (show cappeds (A.take (k+1))=cappeds (A.take k) ++ [A[k].capped] from by
       rw[tsg hkA];unfold cappeds;rw[List.map_append];rfl)
      have HCL:=mh (show(cappeds (A.take k)).length≤64 from by unfold cappeds;rw[List.length_map,List.length_take];omega);obtain⟨x,ex⟩:∃x,A[k]=x:=⟨_,rfl⟩;rw[ex]at c0 c1 c2 c3 c4 c5 c6 c7 c8 ST;have hbx:=(brf wp.heap.size wp).alloc mle (.cells #[I O x.farm,I O x.scheme,I O x.decl,I O x.det,I O x.paid,I O x.rated,I O x.timely,I O x.capped,I O x.due] 91);have HC2:=mh (HC.out.below hbx);have HBX:=mh (HB2.out.trans (hbx.mono HB2.out.size));clear hbl ex hbx
      go_wp2_with (first|(at_builtin;(refine OwnR.append el_int rfl (.tmp 55) (.tmp 58) rfl wo.heap.size _ (cappeds (A.take k)) x.capped #[I O x.capped] rfl HC2.out rfl (by simp[Act.eval]) HBX.out.size (by have:=HCL.out;omega) (by decide) ?_);intro v5 w5 hO5 hap5;have HO5:=mh hO5;have HB5:=mh (HBX.out.trans hap5.below);clear hO5 hap5)|fail)
      go_roundw
      case rel=>exact⟨k+1,by omega,by go_num,by rw[ST.out];exact HO5.out,HB5.out⟩
      case measure=>simp[intOf];omega
     ·obtain rfl:k=n:=by omega
      have HC' := mh (show OwnR SI wp 3 wo.heap.size _ (cappeds A) from by have:=HC.out;rw[List.take_of_length_le (by rw[HNA.out];exact Nat.le_refl _)]at this;exact this);obtain⟨pc,cc,rfl, -, -, -, -,hrc⟩:=HC'.out.cut (show(cappeds A).length=k from by unfold cappeds;rw[List.length_map,HNA.out]);have SC:=mh (SCL.out wp pc cc hrc.ints);have YP:=mh (YO.out.below HB2.out);have y7:=YP.out.cell 7;have y8:=YP.out.cell 8;have HOA:=mh (HO.out.below HB2.out);have HBP:=mh (show Below w1.heap.size w1 wp from HBO.out.trans (HB2.out.mono HBO.out.size));clear hrc hk hlt hk0
      go_wp2_with fail
      (with_reducible refine cmo SC.out ?_);rintro e w6 ⟨pF,cF,rfl,hI,hb6,hnw⟩;have CPS:=mh (show DuS wp.heap.size w1.heap.size w1 w6 (.slice po k co) A pF C 0 from⟨by rw[dueN_zero];exact HOA.out.below hb6,HBP.out.trans (hb6.mono HBP.out.size),hI,fun g hg=>(HOA.out.lt hg).2,hnw⟩);clear hI hb6 hnw
      go_wp2_with fail
      rw[HNC.out]
      go_loopw [75] (fun i W=>∃j:Nat,j≤k∧i=I O j∧DuS wp.heap.size w1.heap.size w1 W (.slice po k co) A pF C j) (fun i _=>k - (intOf i).toNat)
      case atStart=>exact⟨0,Nat.zero_le _,rfl,CPS.out⟩
      case round =>
       obtain⟨wq,rfl⟩:∃wq:World,wq=wr:=⟨_,rfl⟩;obtain⟨j,hj,rfl,hp⟩:=hrel;have HP:=mh hp;clear hp CPS y7 y8;have hj0:(0:Int)≤(j:Int):=inn _
       by_cases hlt:j<k
       ·have hj1:(j:Int)<(k:Int):=by omega
        obtain⟨b,off,x,rfl,hb,hcx,hx⟩:=HP.out.ints.get (show j<C.length by rw[HNC.out];exact hlt);obtain⟨g,c,u,ev,h8,f8,hset⟩:=HP.out.set HNA.out hlt
        cases ev
        rw[hx.out]at hset;have HSET:=mh hset;clear hset hx hb
        go_wp2
        go_roundw
        case rel=>exact⟨j+1,by omega,by go_num,HSET.out⟩
        case measure=>simp[intOf];omega
       ·obtain rfl:j=k:=by omega
        clear hlt
        go_wp2
        go_ret2
        exact⟨_,by rw[ER.out];rfl,by rw[EA.out,← dueN_all,HNA.out];exact HP.out.oa.mono HB1.out.size,HB1.out.trans (HP.out.low.mono HB1.out.size)⟩
def As.Due (A:List Awd):Prop:=A.length≤1000∧∀a∈A,0≤a.due∧a.due≤68719476736
theorem As.total_take {A:List Awd}{k:Nat}(hk:k<A.length):total (A.take (k+1))=total (A.take k)+A[k].due:=by
 rw[tsg hk,total_snoc]
theorem As.Due.bd {A:List Awd}(h:Due A):∀{k:Nat},k≤A.length→0≤total (A.take k)∧total (A.take k)≤68719476736*k
 | 0,_=>by simp[total,Sh.sum]
 | k+1,hk=>by
   have ih:=h.bd (k:=k) (by omega);have:=h.2 A[k] (List.getElem_mem (show k<A.length by omega));rw[total_take (by omega)]
   push_cast
   omega
theorem total34_any (p:Option Addr)(A:List Awd)(c:Nat)(w:World)(h:Recs SA w p A)(hd:Due A):Calls Tryz.prog 20 #[.slice p A.length c] w (IntG (total A) w):=by
 have H:=mh h;have HD:=mh hd;have hlen:=h.len;have hl:=hd.1;clear h hd
 go_enter Tryz.func20,Tryz.ntmps20
 go_wp2
 go_loopw [3,8] (fun s i wr=>∃k:Nat,k≤A.length∧i=I O k∧s=I O (total (A.take k))∧Below w.heap.size w wr) (fun _ i _=>A.length - (intOf i).toNat)
 case atStart=>exact⟨0,Nat.zero_le _,rfl,rfl,brf _ _⟩
 case round =>
  obtain⟨wo,rfl⟩:∃wo:World,wo=wr:=⟨_,rfl⟩;obtain⟨k,hk,rfl,rfl,hb⟩:=hrel;have hk0:(0:Int)≤(k:Int):=inn _;have BD:=HD.out.bd hk
  by_cases hlt:k<A.length
  ·have hk1:(k:Int)<(A.length:Int):=by omega
   obtain⟨b,off,e,hbl,⟨c0,c1,c2,c3,c4,c5,c6,c7,c8⟩⟩:=SA_at (H.out.below hb) hlt
   cases e
   have ST:=total_take hlt;have ha:=HD.out.2 A[k] (List.getElem_mem hlt);obtain⟨⟨a1,a2,a3,a4,a5,a6,a7,a8,a9⟩,ea⟩:∃a,A[k]=a:=⟨_,rfl⟩;rw[ea]at c0 c1 c2 c3 c4 c5 c6 c7 c8 ST ha;simp only at c0 c1 c2 c3 c4 c5 c6 c7 c8 ST ha;obtain⟨T,eT⟩:∃T,total (A.take k)=T:=⟨_,rfl⟩;rw[eT]at BD ST ⊢;have hw:IntKind.i64.wrap (T+a9)=T+a9:=by rw[IntKind.wrap_i64];omega
   have STH:=mh ST;have HB:=mh (balloc mle hb (.cells #[I O a1,I O a2,I O a3,I O a4,I O a5,I O a6,I O a7,I O a8,I O a9] 91));clear ST BD ha ea eT hb
   go_wp2
   go_roundw
   case rel=>exact⟨k+1,by omega,by go_num,by rw[STH.out],HB.out⟩
   case measure=>simp[intOf];omega
  ·obtain rfl:k=A.length:=by omega
   have HB:=mh hb;rw[List.take_length]at *;clear hb
   go_wp2
   go_ret
   exact⟨rfl,HB.out⟩
theorem As.amount_take {A:List Awd}{farm:Int}{k:Nat}(hk:k<A.length):amount (A.take (k+1)) farm=amount (A.take k) farm+if A[k].farm=farm then A[k].due else 0:=by
 unfold amount;rw[tsg hk,List.map_append,List.map_singleton,Sh.sum_snoc]
theorem As.Due.bda {A:List Awd}(h:Due A)(farm:Int):∀{k:Nat},k≤A.length→0≤amount (A.take k) farm∧amount (A.take k) farm≤68719476736*k
 | 0,_=>by simp[amount,Sh.sum]
 | k+1,hk=>by
   have ih:=h.bda farm (k:=k) (by omega);have:=h.2 A[k] (List.getElem_mem (show k<A.length by omega));rw[amount_take (by omega)]
   push_cast
   split<;>omega
theorem amount34_any (p:Option Addr)(A:List Awd)(c:Nat)(farm:Int)(w:World)(h:Recs SA w p A)(hd:Due A):Calls Tryz.prog 22 #[.slice p A.length c,I O farm] w (IntG (amount A farm) w):=by
 have H:=mh h;have HD:=mh hd;have hlen:=h.len;have hl:=hd.1;clear h hd
 go_enter Tryz.func22,Tryz.ntmps22
 go_wp2
 go_loopw [5,10] (fun s i wr=>∃k:Nat,k≤A.length∧i=I O k∧s=I O (amount (A.take k) farm)∧Below w.heap.size w wr) (fun _ i _=>A.length - (intOf i).toNat)
 case atStart=>exact⟨0,Nat.zero_le _,rfl,rfl,brf _ _⟩
 case round =>
  obtain⟨wo,rfl⟩:∃wo:World,wo=wr:=⟨_,rfl⟩;obtain⟨k,hk,rfl,rfl,hb⟩:=hrel;have hk0:(0:Int)≤(k:Int):=inn _;have BD:=HD.out.bda farm hk
  by_cases hlt:k<A.length
  ·have hk1:(k:Int)<(A.length:Int):=by omega
   obtain⟨b,off,e,hbl,⟨c0,c1,c2,c3,c4,c5,c6,c7,c8⟩⟩:=SA_at (H.out.below hb) hlt
   cases e
   have ST:=amount_take (farm:=farm) hlt;have ha:=HD.out.2 A[k] (List.getElem_mem hlt);obtain⟨⟨a1,a2,a3,a4,a5,a6,a7,a8,a9⟩,ea⟩:∃a,A[k]=a:=⟨_,rfl⟩;rw[ea]at c0 c1 c2 c3 c4 c5 c6 c7 c8 ST ha;simp only at c0 c1 c2 c3 c4 c5 c6 c7 c8 ST ha;obtain⟨T,eT⟩:∃T,amount (A.take k) farm=T:=⟨_,rfl⟩;rw[eT]at BD ST ⊢;have hw:IntKind.i64.wrap (T+a9)=T+a9:=by rw[IntKind.wrap_i64];omega
   have HB:=mh (balloc mle hb (.cells #[I O a1,I O a2,I O a3,I O a4,I O a5,I O a6,I O a7,I O a8,I O a9] 91))
   by_cases hf:a1=farm
   ·have STH:=mh (show amount (A.take (k+1)) farm=T+a9 from by rw[ST,if_pos hf])
    have hfb:(a1==farm)=true:=by simpa using hf
    clear ST BD ha ea eT hb hf
    go_wp2
    go_roundw
    case rel=>exact⟨k+1,by omega,by go_num,by rw[STH.out],HB.out⟩
    case measure=>simp[intOf];omega
   ·have STH:=mh (show amount (A.take (k+1)) farm=T from by rw[ST,if_neg hf,Int.add_zero])
    have hfb:(a1==farm)=false:=by simpa using hf
    clear ST BD ha ea eT hb hf hw
    go_wp2
    go_roundw
    case rel=>exact⟨k+1,by omega,by go_num,by rw[STH.out],HB.out⟩
    case measure=>simp[intOf];omega
  ·obtain rfl:k=A.length:=by omega
   have HB:=mh hb;rw[List.take_length]at *;clear hb
   go_wp2
   go_ret
   exact⟨rfl,HB.out⟩
def aw34S:Sch:=⟨2,⟨#[97]⟩,tmTrue, [⟨1000,200⟩],0,0,false⟩
def aw34Y:YLaw:=⟨[aw34S], [(30,1)],⟨5,9,0⟩, [],5000,5000,1,0⟩
def aw34F:FarmF:=⟨7,3, [⟨50,4, [50],0,0,0,0⟩]⟩
theorem aw34_chk:chkY aw34Y=0:=by kernel_rfl
theorem aw34_facts:chkF aw34Y [aw34F]=0:=by kernel_rfl
theorem aw34_ferr:farmErr aw34Y aw34F=0:=by kernel_rfl
theorem aw34_farm:farmAw aw34Y aw34F = [⟨7,2,50,50,50,100,100,100,0⟩]:=by kernel_rfl
theorem aw34_rsn:farmRs aw34Y aw34F = []:=by kernel_rfl
theorem aw34_err:assErr aw34Y [aw34F]=0:=by kernel_rfl
theorem aw34_assess:assess aw34Y [aw34F] = [⟨7,2,50,50,50,100,100,100,100⟩]:=by kernel_rfl
theorem Pairs.lit8 (w:World)(T:TypeId)(D:List (Int × Int))(hl:D.length≤maxLen):Pairs (w.alloc (.cells (pcells D).toArray T)) (some ⟨w.heap.size,0,none⟩) D:=by
 refine⟨hl,.inr ⟨_,0,rfl,by simp,fun j hj=>?_⟩⟩
 have hp:=pcells_at D j hj;rw[Nat.zero_add,cwn,cwn]
 simpa using hp
structure AwS (w W:World) (b1 b2 b3 b5 b6:Nat):Prop where
 yv:YV (fun _=>True) W 0 ⟨some ⟨b1,0,none⟩,1,1,some ⟨b2,0,none⟩,1,1,5,9,0,none,0,0,5000,5000,1,0⟩ aw34Y
 fs:FsAt (fun _=>True) W (some ⟨b6,0,none⟩) [aw34F]
 fv:FV (fun _=>True) W ⟨7,3,some ⟨b5,0,none⟩,1,1⟩ aw34F
 bl:Blk W b3 #[.slice (some ⟨b1,0,none⟩) 1 1,.slice (some ⟨b2,0,none⟩) 1 1,I O 5,I O 9,I O 0,.slice none 0 0,I O 5000,I O 5000,I O 1,I O 0] 29
 bf:Blk W b6 #[I O 7,I O 3,.slice (some ⟨b5,0,none⟩) 1 1] 47
 low:Below w.heap.size w W
theorem AwS.below {w W W' : World}{b1 b2 b3 b5 b6:Nat}(h:AwS w W b1 b2 b3 b5 b6)(hb:Below W.heap.size W W'):AwS w W' b1 b2 b3 b5 b6 :=
 ⟨h.yv.below hb,h.fs.below hb,h.fv.below hb,h.bl.below hb,h.bf.below hb,h.low.trans (hb.mono h.low.size)⟩
theorem aw34_mem {w w1 w2 w3 w4 w5 w6 w7:World}{b0 b1 b2 b3 b4 b5 b6:Nat}(e0:w.heap.size=b0)(e1:b0+1=b1)(e2:b1+1=b2)(e3:b2+1=b3)(e4:b3+1=b4)(e5:b4+1=b5)(e6:b5+1=b6)
  (h1:w1=w.alloc (.cells #[I O 1000,I O 200] 78))
  (h2:w2=w1.alloc (.cells #[I O 2,.string ⟨#[97]⟩,I O 1,I O 0,I O 0,.slice none 0 0,.slice (some ⟨b0,0,none⟩) 1 1,I O 0,I O 0,.bool false] 81))
  (h3:w3=w2.alloc (.cells #[I O 30,I O 1] 83))
  (h4:w4=w3.alloc (.cells #[.slice (some ⟨b1,0,none⟩) 1 1,.slice (some ⟨b2,0,none⟩) 1 1,I O 5,I O 9,I O 0,.slice none 0 0,I O 5000,I O 5000,I O 1,I O 0] 29))
  (h5:w5=w4.alloc (.cells #[I O 50] 3))
  (h6:w6=w5.alloc (.cells #[I O 50,I O 4,.slice (some ⟨b4,0,none⟩) 1 1,I O 0,I O 0,I O 0,I O 0] 89))
  (h7:w7=w6.alloc (.cells #[I O 7,I O 3,.slice (some ⟨b5,0,none⟩) 1 1] 47)):AwS w w7 b1 b2 b3 b5 b6:=by
 have s1:w1.heap.size=b1:=by rw[h1,World.size_alloc];omega
 have s2:w2.heap.size=b2:=by rw[h2,World.size_alloc];omega
 have s3:w3.heap.size=b3:=by rw[h3,World.size_alloc];omega
 have s4:w4.heap.size=b4:=by rw[h4,World.size_alloc];omega
 have s5:w5.heap.size=b5:=by rw[h5,World.size_alloc];omega
 have s6:w6.heap.size=b6:=by rw[h6,World.size_alloc];omega
 have al:∀(W W' : World) (o:Obj),W' = W.alloc o→Below W.heap.size W W' := fun W W' o h=>by rw[h];exact(brf _ _).alloc mle _
 have q2:=al _ _ _ h2;have q3:=al _ _ _ h3;have q4:=al _ _ _ h4;have q5:=al _ _ _ h5;have q6:=al _ _ _ h6;have q7:=al _ _ _ h7;have d67:=q7;have d57:=q6.trans (q7.mono q6.size);have d47:=q5.trans (d57.mono q5.size);have d37:=q4.trans (d47.mono q4.size);have d27:=q3.trans (d37.mono q3.size);have d17:=q2.trans (d27.mono q2.size);have one:∀n:Nat,n=1→n≤maxLen:=fun n h=>by unfold maxLen;omega
 have R0:Recs SBk w1 (some ⟨b0,0,none⟩) [⟨1000,200⟩]:=by rw[h1,← e0];exact Recs.lit (S:=SBk) w _ [⟨1000,200⟩] (one _ rfl)
 have R1:Recs SSc w2 (some ⟨b1,0,none⟩) [⟨2,⟨#[97]⟩,⟨1,0,0,none,0,0⟩,some ⟨b0,0,none⟩,1,1,0,0,false⟩]:=by rw[h2,← s1];exact Recs.lit (S:=SSc) w1 _ [⟨2,⟨#[97]⟩,⟨1,0,0,none,0,0⟩,some ⟨b0,0,none⟩,1,1,0,0,false⟩] (one _ rfl)
 have R2:Pairs w3 (some ⟨b2,0,none⟩) [(30,1)]:=by rw[h3,← s2];exact Pairs.lit8 w2 _ [(30,1)] (one _ rfl)
 have R4:Ints w5 (some ⟨b4,0,none⟩) [50]:=by rw[h5,← s4];exact Ints.lit w4 _ [50] (one _ rfl)
 have R5:Recs SL w6 (some ⟨b5,0,none⟩) [⟨50,4,some ⟨b4,0,none⟩,1,1,0,0,0,0⟩]:=by rw[h6,← s5];exact Recs.lit (S:=SL) w5 _ [⟨50,4,some ⟨b4,0,none⟩,1,1,0,0,0,0⟩] (one _ rfl)
 have R6:Recs SF w7 (some ⟨b6,0,none⟩) [⟨7,3,some ⟨b5,0,none⟩,1,1⟩]:=by rw[h7,← s6];exact Recs.lit (S:=SF) w6 _ [⟨7,3,some ⟨b5,0,none⟩,1,1⟩] (one _ rfl)
 have V:FV (fun _=>True) w7 ⟨7,3,some ⟨b5,0,none⟩,1,1⟩ aw34F:=⟨rfl,rfl,⟨⟨_,rfl,R5.below d67,fun k a b=>by
  obtain rfl:k=0:=by simp at a;exact a
  exact⟨rfl,rfl,R4.below d57,rfl,Nat.le_refl _,(fun e=>by cases e),fun _ _ => .inr trivial,rfl,rfl,rfl,rfl⟩⟩,fun _ _ => .inr trivial⟩,rfl,Nat.le_refl _,fun e=>by cases e⟩
 refine⟨⟨⟨⟨_,rfl,R1.below d27,fun k a b=>?_⟩,fun _ _ => .inr trivial⟩,rfl,Nat.le_refl _,R2.below d37,rfl,fun _ _ => .inr trivial,rfl,rfl,rfl,Pairs.nil _ _,rfl,(fun _ e=>by cases e),rfl,rfl,rfl,rfl,fun s hs=>?_,fun s hs=>?_⟩,
  ⟨⟨_,rfl,R6,fun k a b=>?_⟩,fun _ _ => .inr trivial⟩,V,?_,?_,?_⟩
 ·obtain rfl:k=0:=by simp at a;exact a
  exact⟨rfl,rfl,⟨⟨rfl,rfl,rfl,rfl,Nat.le_refl _,fun _=>rfl⟩,TmsAt.nil _ _ _ _⟩,R0.below d17,rfl,Nat.le_refl _,(fun e=>by cases e),fun _ _ => .inr trivial,rfl,rfl,rfl⟩
 ·rw[List.mem_singleton.1 hs];decide
 ·rw[List.mem_singleton.1 hs];decide
 ·obtain rfl:k=0:=by simp at a;exact a
  exact V
 ·have:Blk w4 b3 #[.slice (some ⟨b1,0,none⟩) 1 1,.slice (some ⟨b2,0,none⟩) 1 1,I O 5,I O 9,I O 0,.slice none 0 0,I O 5000,I O 5000,I O 1,I O 0] 29:=by rw[h4,← s3];exact Blk.new _ _ _
  exact this.below d47
 ·rw[h7,← s6];exact Blk.new _ _ _
 ·exact(al _ _ _ h1).trans (d17.mono (al _ _ _ h1).size)
theorem awake34_any (w:World):Calls Tryz.prog 6 #[] w fun e w' => e = .returned (.bool true)∧Below w.heap.size w w' :=by
 obtain⟨b0,e0⟩:∃b,w.heap.size=b:=⟨_,rfl⟩;obtain⟨b1,e1⟩:∃b,b0+1=b:=⟨_,rfl⟩;obtain⟨b2,e2⟩:∃b,b1+1=b:=⟨_,rfl⟩;obtain⟨b3,e3⟩:∃b,b2+1=b:=⟨_,rfl⟩;obtain⟨b4,e4⟩:∃b,b3+1=b:=⟨_,rfl⟩;obtain⟨b5,e5⟩:∃b,b4+1=b:=⟨_,rfl⟩;obtain⟨b6,e6⟩:∃b,b5+1=b:=⟨_,rfl⟩;have M:=mh (aw34_mem e0 e1 e2 e3 e4 e5 e6 rfl rfl rfl rfl rfl rfl rfl)
 go_enter Tryz.func6,Tryz.ntmps6
 go_upto_region 3 with fail
 clear e0 e1 e2 e3 e4 e5 e6;generalize (((((((w.alloc (.cells #[I O 1000,I O 200] 78)).alloc (.cells #[I O 2,.string ⟨#[97]⟩,I O 1,I O 0,I O 0,.slice none 0 0,.slice (some ⟨b0,0,none⟩) 1 1,I O 0,I O 0,.bool false] 81)).alloc (.cells #[I O 30,I O 1] 83)).alloc (.cells #[.slice (some ⟨b1,0,none⟩) 1 1,.slice (some ⟨b2,0,none⟩) 1 1,I O 5,I O 9,I O 0,.slice none 0 0,I O 5000,I O 5000,I O 1,I O 0] 29)).alloc (.cells #[I O 50] 3)).alloc (.cells #[I O 50,I O 4,.slice (some ⟨b4,0,none⟩) 1 1,I O 0,I O 0,I O 0,I O 0] 89)).alloc (.cells #[I O 7,I O 3,.slice (some ⟨b5,0,none⟩) 1 1] 47))=w7 at *;have AS:=mh (fun (W:World) (h:AwS w W b1 b2 b3 b5 b6)=>assess34_any 0 _ aw34Y (some ⟨b6,0,none⟩) [aw34F] 1 W h.yv h.fs);have FR:=mh (fun (W:World) (h:AwS w W b1 b2 b3 b5 b6)=>frm34_any 0 _ aw34Y ⟨7,3,some ⟨b5,0,none⟩,1,1⟩ aw34F W h.yv h.fv);have CK:=mh (fun (W:World) (h:AwS w W b1 b2 b3 b5 b6)=>check34_any 0 _ aw34Y W h.yv h.yv.sc);have FC:=mh (fun (W:World) (h:AwS w W b1 b2 b3 b5 b6)=>facts34_any 0 _ aw34Y (some ⟨b6,0,none⟩) [aw34F] 1 W h.yv h.yv.sc h.fs);unfold AsG at AS;unfold FrG at FR;simp only[yCells,fCells,aw34_err,aw34_assess,aw34_ferr,aw34_farm,aw34_rsn,aw34_chk,aw34_facts]at AS FR CK FC;have DU:=mh (show Due [⟨7,2,50,50,50,100,100,100,100⟩] from⟨by decide,fun a ha=>by rw[List.mem_singleton.1 ha];decide⟩);have AM:=mh (fun (W:World) (p:Option Addr) (c:Nat) (h:Recs SA W p [⟨7,2,50,50,50,100,100,100,100⟩])=>show Calls Tryz.prog 22 #[.slice p 1 c,I O 7] W (IntG 100 W) from amount34_any p [⟨7,2,50,50,50,100,100,100,100⟩] c 7 W h DU.out);have TT:=mh (fun (W:World) (p:Option Addr) (c:Nat) (h:Recs SA W p [⟨7,2,50,50,50,100,100,100,100⟩])=>show Calls Tryz.prog 20 #[.slice p 1 c] W (IntG 100 W) from total34_any p [⟨7,2,50,50,50,100,100,100,100⟩] c W h DU.out);have z0:=M.out.bl.cell 0;have z1:=M.out.bl.cell 1;have z2:=M.out.bl.cell 2;have z3:=M.out.bl.cell 3;have z4:=M.out.bl.cell 4;have z5:=M.out.bl.cell 5;have z6:=M.out.bl.cell 6;have z7:=M.out.bl.cell 7;have z8:=M.out.bl.cell 8;have z9:=M.out.bl.cell 9;
 go_wp2_with fail
 (with_reducible refine cmo (AS.out _ M.out) ?_);rintro e w8 ⟨va,rfl,hoa,hb8⟩;obtain⟨pa,ca,rfl, -,hpa, -, -,hra⟩:=hoa.cut (n:=1) rfl;have M8:=mh (M.out.below hb8);have RA:=mh hra;clear hoa hpa hra hb8 z0 z1 z2 z3 z4 z5 z6 z7 z8 z9
 have KD:=mh (show w8.drew.cell? ⟨b3,0,none⟩=some (.slice (some ⟨b1,0,none⟩) 1 1)∧w8.drew.cell? ⟨b3,1,none⟩=some (.slice (some ⟨b2,0,none⟩) 1 1)∧w8.drew.cell? ⟨b3,2,none⟩=some (I O 5)∧w8.drew.cell? ⟨b3,3,none⟩=some (I O 9)∧w8.drew.cell? ⟨b3,4,none⟩=some (I O 0)∧w8.drew.cell? ⟨b3,5,none⟩=some (.slice none 0 0)∧w8.drew.cell? ⟨b3,6,none⟩=some (I O 5000)∧w8.drew.cell? ⟨b3,7,none⟩=some (I O 5000)∧w8.drew.cell? ⟨b3,8,none⟩=some (I O 1)∧w8.drew.cell? ⟨b3,9,none⟩=some (I O 0)∧w8.drew.cell? ⟨b6,0,none⟩=some (I O 7)∧w8.drew.cell? ⟨b6,1,none⟩=some (I O 3)∧w8.drew.cell? ⟨b6,2,none⟩=some (.slice (some ⟨b5,0,none⟩) 1 1) from by
  have h:=M8.out.below (brf _ _).drew
  exact⟨(mh h).out.bl.cell 0,(mh h).out.bl.cell 1,(mh h).out.bl.cell 2,(mh h).out.bl.cell 3,(mh h).out.bl.cell 4,(mh h).out.bl.cell 5,(mh h).out.bl.cell 6,(mh h).out.bl.cell 7,(mh h).out.bl.cell 8,(mh h).out.bl.cell 9,(mh h).out.bf.cell 0,(mh h).out.bf.cell 1,(mh h).out.bf.cell 2⟩)
 go_wp2_with fail
 go_region_held3 (fun w' => w'.cell? ⟨b3,0,none⟩=some (.slice (some ⟨b1,0,none⟩) 1 1)∧w'.cell? ⟨b3,1,none⟩=some (.slice (some ⟨b2,0,none⟩) 1 1)∧w'.cell? ⟨b3,2,none⟩=some (I O 5)∧w'.cell? ⟨b3,3,none⟩=some (I O 9)∧w'.cell? ⟨b3,4,none⟩=some (I O 0)∧w'.cell? ⟨b3,5,none⟩=some (.slice none 0 0)∧w'.cell? ⟨b3,6,none⟩=some (I O 5000)∧w'.cell? ⟨b3,7,none⟩=some (I O 5000)∧w'.cell? ⟨b3,8,none⟩=some (I O 1)∧w'.cell? ⟨b3,9,none⟩=some (I O 0)∧w'.cell? ⟨b6,0,none⟩=some (I O 7)∧w'.cell? ⟨b6,1,none⟩=some (I O 3)∧w'.cell? ⟨b6,2,none⟩=some (.slice (some ⟨b5,0,none⟩) 1 1)) (first|with_reducible exact KD.out|with_reducible exact K9.out|go_keep) (first|(go_at_call 24;(with_reducible refine cmo (FR.out _ (M8.out.below (brf _ _).drew)) ?_);rintro e w9 ⟨vb,vr,rfl,hob,hor,hb9⟩;obtain⟨pb,cb,rfl, -, -, -, -,hrb⟩:=hob.cut (n:=1) rfl;obtain⟨pr,cr,rfl, -, -, -, -, -⟩:=hor.cut (n:=0) rfl;have M9:=mh ((M8.out.below (brf _ _).drew).below hb9);have RA9:=mh ((RA.out.below (brf _ _).drew).below hb9);have RB9:=mh hrb;have K9:=mh (show w9.cell? ⟨b3,0,none⟩=some (.slice (some ⟨b1,0,none⟩) 1 1)∧w9.cell? ⟨b3,1,none⟩=some (.slice (some ⟨b2,0,none⟩) 1 1)∧w9.cell? ⟨b3,2,none⟩=some (I O 5)∧w9.cell? ⟨b3,3,none⟩=some (I O 9)∧w9.cell? ⟨b3,4,none⟩=some (I O 0)∧w9.cell? ⟨b3,5,none⟩=some (.slice none 0 0)∧w9.cell? ⟨b3,6,none⟩=some (I O 5000)∧w9.cell? ⟨b3,7,none⟩=some (I O 5000)∧w9.cell? ⟨b3,8,none⟩=some (I O 1)∧w9.cell? ⟨b3,9,none⟩=some (I O 0)∧w9.cell? ⟨b6,0,none⟩=some (I O 7)∧w9.cell? ⟨b6,1,none⟩=some (I O 3)∧w9.cell? ⟨b6,2,none⟩=some (.slice (some ⟨b5,0,none⟩) 1 1) from⟨M9.out.bl.cell 0,M9.out.bl.cell 1,M9.out.bl.cell 2,M9.out.bl.cell 3,M9.out.bl.cell 4,M9.out.bl.cell 5,M9.out.bl.cell 6,M9.out.bl.cell 7,M9.out.bl.cell 8,M9.out.bl.cell 9,M9.out.bf.cell 0,M9.out.bf.cell 1,M9.out.bf.cell 2⟩);clear hob hor hb9 hrb)|fail)
 obtain⟨ba,oa,rfl, -, -⟩:=SA_at RA9.out (show 0<1 by omega);obtain⟨bb,ob,rfl, -, -⟩:=SA_at RB9.out (show 0<1 by omega);have z0:=M9.out.bl.cell 0;have z1:=M9.out.bl.cell 1;have z2:=M9.out.bl.cell 2;have z3:=M9.out.bl.cell 3;have z4:=M9.out.bl.cell 4;have z5:=M9.out.bl.cell 5;have z6:=M9.out.bl.cell 6;have z7:=M9.out.bl.cell 7;have z8:=M9.out.bl.cell 8;have z9:=M9.out.bl.cell 9;
 go_wp2_with (first
  | (go_at_call 12;(with_reducible refine cmo (CK.out _ M9.out) ?_);rintro e w10 ⟨rfl,hb10⟩;have M10:=mh (M9.out.below hb10);have RA10:=mh (RA9.out.below hb10);have RB10:=mh (RB9.out.below hb10);have y0:=M10.out.bl.cell 0;have y1:=M10.out.bl.cell 1;have y2:=M10.out.bl.cell 2;have y3:=M10.out.bl.cell 3;have y4:=M10.out.bl.cell 4;have y5:=M10.out.bl.cell 5;have y6:=M10.out.bl.cell 6;have y7:=M10.out.bl.cell 7;have y8:=M10.out.bl.cell 8;have y9:=M10.out.bl.cell 9;clear hb10)
  | (go_at_call 15;(with_reducible refine cmo (FC.out _ M10.out) ?_);rintro e w11 ⟨rfl,hb11⟩;have M11:=mh (M10.out.below hb11);have RA11:=mh (RA10.out.below hb11);have RB11:=mh (RB10.out.below hb11);obtain⟨ba', oa', ea, -,⟨x0,x1,x2,x3,x4,x5,x6,x7,x8⟩⟩:=SA_at RA11.out (show 0<1 by omega);cases ea;obtain⟨bb', ob', eb, -,⟨-, -, -, -, -, -, -, -,v8⟩⟩:=SA_at RB11.out (show 0<1 by omega);cases eb;simp only[List.getElem_cons_zero,Nat.zero_mul,Nat.add_zero]at x0 x1 x2 x3 x4 x5 x6 x7 x8 v8;clear hb11)
  | (go_at_call 22;(with_reducible refine cmo (AM.out _ _ _ RA11.out) ?_);rintro e w12 ⟨rfl,hb12⟩;have M12:=mh (M11.out.below hb12);have RA12:=mh (RA11.out.below hb12);clear hb12)
  | (go_at_call 20;(with_reducible refine cmo (TT.out _ _ _ RA12.out) ?_);rintro e w13 ⟨rfl,hb13⟩;have M13:=mh (M12.out.below hb13);clear hb13)
  | fail)
 go_ret
 exact⟨rfl,M13.out.low⟩
structure Opn (w W:World) (t:Nat) (l:List Int) (q g d:Nat) (r:RY) (Y:YLaw):Prop where
 tape:TapeAt W t l q
 low:Below w.heap.size w W
 wt:w.heap.size≤t
 yv:YV (fun b=>t<b) W d r Y
 vb:Blk W g (yCells r).toArray 29
 tg:t<g
 ok:YOk Y
 len:Y.sch.length≤3
 due:Y.late.due<40
 sm:∀s∈Y.sch,SmallS s
section
variable {w w1 w2 W W' : World} {t q q' g d:Nat} {l:List Int} {r:RY} {Y:YLaw}
theorem Opn.next (h:Opn w W t l q g d r Y)(ht:TapeAt W' t l q')(hb:But t W W'):Opn w W' t l q' g d r Y:=by
 have hw:=h.wt;have hs:=h.low.size;have htg:=h.tg;exact⟨ht,h.low.trans (hb.below hw (by omega)),hw,h.yv.change hb.size fun b k hl=>⟨hb.block b hl (by omega),k⟩,h.vb.but hb (by omega),h.tg,h.ok,h.len,h.due,h.sm⟩
theorem Opn.below (h:Opn w W t l q g d r Y)(hb:Below W.heap.size W W'):Opn w W' t l q g d r Y:=h.next (h.tape.below hb) (.of_below hb)
theorem Opn.init {T:TypeId}{l:List Int}(hb:Below w.heap.size w w1)(ht:w.heap.size<w1.heap.size)(hy:YV (NewQ w1.heap.size) w2 d r Y)(ho:YOk Y)(hl:Y.sch.length≤3)(hd:Y.late.due<40)(hs:∀s∈Y.sch,SmallS s)(hp:TpB w1 w2 w.heap.size l q)(hT:T=29) :
  Opn w (w2.alloc (.cells (yCells r).toArray T)) w.heap.size l q w2.heap.size d r Y:=by
 subst hT;have hA:=(brf w2.heap.size w2).alloc mle (.cells (yCells r).toArray 29);have h2:=hp.but.size;refine⟨hp.tape.below hA,(hb.trans (hp.but.below mle hb.size)).trans (hA.mono (by omega)),Nat.le_refl _,hy.change hA.size fun b k hl=>⟨hA.block b hl,by unfold NewQ at k;omega⟩,Blk.new _ _ _,by omega,ho,hl,hd,hs⟩
end
structure Fms (W:World) (t:Nat) (Y:YLaw) (p:Option Addr) (F:List FarmF) (most:Nat):Prop where
 at_:FsAt (fun b=>t<b) W p F
 ok:FOk Y F
 fm:∀f∈F,FmOk Y f
 len:F.length≤most
theorem Fms.but {W W' : World}{t:Nat}{Y:YLaw}{p:Option Addr}{F:List FarmF}{most:Nat}(h:Fms W t Y p F most)(hb:But t W W'):Fms W' t Y p F most :=
 ⟨h.at_.change hb.size fun b k hl=>⟨hb.block b hl (by omega),k⟩,h.ok,h.fm,h.len⟩
theorem Fms.below {W W' : World}{t:Nat}{Y:YLaw}{p:Option Addr}{F:List FarmF}{most:Nat}(h:Fms W t Y p F most)(hb:Below W.heap.size W W'):Fms W' t Y p F most:=h.but (.of_below hb)
theorem Opn.farms {w W:World}{t q g d:Nat}{l:List Int}{r:RY}{Y:YLaw}(h:Opn w W t l q g d r Y)(most:Nat)(hm:most≤4) :
  Calls Tryz.prog 9 #[.pointer (some ⟨t,0,none⟩),.agg (yCells r).toArray,I O (most:Int)] W fun e w' => ∃(p:Option Addr) (F:List FarmF) (cap:Nat) (q' : Nat),e = .returned (.slice p F.length cap)∧F.length≤cap∧Opn w w' t l q' g d r Y∧Fms w' t Y p F most∧But t W w' :=
 (farms2_any d t l q most r Y W h.tape (fun b k=>by omega) h.yv h.ok hm).mono fun e w' ⟨p,F,cap,fa,q', e1,h1,h2,h3,h4,h5⟩ =>
  ⟨p,F,cap,q', e1,h1,h.next h5.tape h5.but,⟨h2.change mle fun b k _=>⟨rfl,by have:=h.tape.lt;unfold NewQ at k;omega⟩,h3.fok h.ok (by omega),h3.fm,h4⟩,h5.but⟩
end Go.Proofs.YtefcalgjnkigjaaGreat
namespace Go.Proofs.YtefcalgjnkigjaaGreat
open Go.RowKit Sc As
theorem run_append_none_cap {P:Program}{w:World}(base:Nat)(t ty e:TypeId)(i:TypeInfo)(size:Nat)(ht:P.underlying t=some (.slice e))(hi:P.info? e=some i)
  (v:Value) (n c:Nat) (xs:List Value) (hown:w.ownsRow base e size v n xs):(Builtin.append_ #[t,t] ty #[v,.slice none 0 c]).run P w = .ok v w:=by
 rcases hown.2 with⟨rfl,rfl⟩|⟨g,cap,cur,rfl,_,_,hnc,_⟩
 ·simp[Builtin.append_,run_underlying ht,sizeOf,typeInfo,hi,Builtin.lenOf,Builtin.firstCells]
 ·simp[Builtin.append_,run_underlying ht,sizeOf,typeInfo,hi,Builtin.lenOf,Builtin.firstCells,hnc,storeCells]
theorem OwnR.appendAny {α:Type}{S:Shape α}{P:Program}{T TS:TypeId}{bytes:Nat}(he:Elem S P T TS bytes){w:World}{ops:Array Oper}{rest:List Oper}{o:Oper}{a:Act}{Q:Exit→Act→World→Prop}(hgd:o.guard=none)(s x:Operand)
  (ho:o.op = .call { callee := .builtin .append,args:=#[s,x],argTypes:=#[TS,TS] }) (B:Nat) (v:Value) (L M:List α) (p:Option Addr) (c n:Nat) (hM:M.length=n) (hown:OwnR S w T B v L) (hsrc:Recs S w p M) (hs:a.eval s=v)
  (hx:a.eval x = .slice p n c) (hB:B≤w.heap.size) (hn:L.length+n<1073741824) (hby:bytes≤65536)
  (h:∀v' w', OwnR S w' T B v' (L++M)→Appends w w' B w.heap.size v v' → wpList P ops Q rest (a.put o.dst v') w'):wpList P ops Q (o::rest) a w:=by
 cases p with
 | none =>
   subst hM;obtain⟨i0,z,e1,e2,e3,e4,e5⟩:=he.ex;have hM:M = []:=by
    rcases hsrc.2 with h|⟨b,off,h,_⟩
    ·exact h
    ·cases h
   subst hM;have hr:=h v w (by rw[List.append_nil];exact hown) ⟨brf _ _,Nat.le_refl _,fun _ _ _=>rfl,.inl rfl⟩;refine wpList_plain hgd fun K hK=>?_
   have hrun:=run_append_none_cap (P:=P) (w:=w) B TS o.type T i0 S.k he.ts e1 v L.length c (S.flat L) hown;unfold Oper.wp
   simp[execOp,ho,resolve,invoke,builtin,hs,hx,hrun,Result.andThen]
   exact hK _ _ hr
 | some ad=>exact OwnR.appendAll he hgd s x ho B v L M (some ad) c n hM hown hsrc (fun h=>by cases h) hs hx hB hn hby h
end Go.Proofs.YtefcalgjnkigjaaGreat
