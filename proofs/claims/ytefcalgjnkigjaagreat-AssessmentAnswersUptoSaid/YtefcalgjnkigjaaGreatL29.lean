/- Packed. -/
import Derived.Test.YtefcalgjnkigjaaGreatL28
set_option maxRecDepth 100000
set_option maxHeartbeats 8000000
open Go.Value renaming int → I
open Go.IntKind renaming i64 → O
namespace Go.Proofs.YtefcalgjnkigjaaGreat
open Go.RowKit Sc As
theorem dR {Q Q2:Nat→Prop}(d:Nat)(r:RY)(l:YLaw)(rf:RF)(f:FarmF)(w:World)(h:YV Q w d r l)(hF:FV Q2 w rf f) :
  Calls Tryz.prog 24 #[.agg (yCells r).toArray,.agg (fCells rf).toArray] w (FrG l f w):=by
 have HB:=mh (show Below w.heap.size w (((w.alloc (.cells #[.slice r.sp r.sn r.sc,.slice r.tp r.tn r.tc,I O r.due,I O r.last,I O r.mille,.slice r.gp r.gn r.gc,I O r.cap,I O r.env,I O r.unit,I O r.width] 29)).alloc (.cells #[I O rf.farm,I O rf.day,.slice rf.lp rf.ln rf.lc] 47)).alloc (.cells #[I O rf.farm,I O rf.day,.slice rf.lp rf.ln rf.lc] 47)) from qK mle (qK mle (qK mle (brf w.heap.size w) _) _) _);have HY:=mh (h.below HB);have HF2:=mh (hF.below HB)
 have FA:=mh (show Calls Tryz.prog 15 #[.agg (yCells r).toArray,.slice (some ⟨((w.alloc (.cells #[.slice r.sp r.sn r.sc,.slice r.tp r.tn r.tc,I O r.due,I O r.last,I O r.mille,.slice r.gp r.gn r.gc,I O r.cap,I O r.env,I O r.unit,I O r.width] 29)).alloc (.cells #[I O rf.farm,I O rf.day,.slice rf.lp rf.ln rf.lc] 47)).heap.size,0,none⟩) 1 1] (((w.alloc (.cells #[.slice r.sp r.sn r.sc,.slice r.tp r.tn r.tc,I O r.due,I O r.last,I O r.mille,.slice r.gp r.gn r.gc,I O r.cap,I O r.env,I O r.unit,I O r.width] 29)).alloc (.cells #[I O rf.farm,I O rf.day,.slice rf.lp rf.ln rf.lc] 47)).alloc (.cells #[I O rf.farm,I O rf.day,.slice rf.lp rf.ln rf.lc] 47)) (kW (xG l [f]) (((w.alloc (.cells #[.slice r.sp r.sn r.sc,.slice r.tp r.tn r.tc,I O r.due,I O r.last,I O r.mille,.slice r.gp r.gn r.gc,I O r.cap,I O r.env,I O r.unit,I O r.width] 29)).alloc (.cells #[I O rf.farm,I O rf.day,.slice rf.lp rf.ln rf.lc] 47)).alloc (.cells #[I O rf.farm,I O rf.day,.slice rf.lp rf.ln rf.lc] 47))) from
  uS d r l _ [f] 1 _ HY HY.sc (yF.one ((hF.any).below (qK mle (qK mle (brf w.heap.size w) _) _)) _))
 have BY:=mh (show(((w.alloc (.cells #[.slice r.sp r.sn r.sc,.slice r.tp r.tn r.tc,I O r.due,I O r.last,I O r.mille,.slice r.gp r.gn r.gc,I O r.cap,I O r.env,I O r.unit,I O r.width] 29)).alloc (.cells #[I O rf.farm,I O rf.day,.slice rf.lp rf.ln rf.lc] 47)).alloc (.cells #[I O rf.farm,I O rf.day,.slice rf.lp rf.ln rf.lc] 47)).heap[w.heap.size]?=some (.cells #[.slice r.sp r.sn r.sc,.slice r.tp r.tn r.tc,I O r.due,I O r.last,I O r.mille,.slice r.gp r.gn r.gc,I O r.cap,I O r.env,I O r.unit,I O r.width] 29) from by
  rw[(((brf (w.alloc (.cells #[.slice r.sp r.sn r.sc,.slice r.tp r.tn r.tc,I O r.due,I O r.last,I O r.mille,.slice r.gp r.gn r.gc,I O r.cap,I O r.env,I O r.unit,I O r.width] 29)).heap.size (w.alloc (.cells #[.slice r.sp r.sn r.sc,.slice r.tp r.tn r.tc,I O r.due,I O r.last,I O r.mille,.slice r.gp r.gn r.gc,I O r.cap,I O r.env,I O r.unit,I O r.width] 29))).alloc mle (.cells #[I O rf.farm,I O rf.day,.slice rf.lp rf.ln rf.lc] 47)).alloc (by simp) (.cells #[I O rf.farm,I O rf.day,.slice rf.lp rf.ln rf.lc] 47)).block w.heap.size (by simp)]
  exact Array.getElem?_push_size)
 have BF:=mh (show(((w.alloc (.cells #[.slice r.sp r.sn r.sc,.slice r.tp r.tn r.tc,I O r.due,I O r.last,I O r.mille,.slice r.gp r.gn r.gc,I O r.cap,I O r.env,I O r.unit,I O r.width] 29)).alloc (.cells #[I O rf.farm,I O rf.day,.slice rf.lp rf.ln rf.lc] 47)).alloc (.cells #[I O rf.farm,I O rf.day,.slice rf.lp rf.ln rf.lc] 47)).heap[w.heap.size+1]?=some (.cells #[I O rf.farm,I O rf.day,.slice rf.lp rf.ln rf.lc] 47) from by
  have e:(w.alloc (.cells #[.slice r.sp r.sn r.sc,.slice r.tp r.tn r.tc,I O r.due,I O r.last,I O r.mille,.slice r.gp r.gn r.gc,I O r.cap,I O r.env,I O r.unit,I O r.width] 29)).heap.size=w.heap.size+1:=by simp
  rw[((brf ((w.alloc (.cells #[.slice r.sp r.sn r.sc,.slice r.tp r.tn r.tc,I O r.due,I O r.last,I O r.mille,.slice r.gp r.gn r.gc,I O r.cap,I O r.env,I O r.unit,I O r.width] 29)).alloc (.cells #[I O rf.farm,I O rf.day,.slice rf.lp rf.ln rf.lc] 47)).heap.size ((w.alloc (.cells #[.slice r.sp r.sn r.sc,.slice r.tp r.tn r.tc,I O r.due,I O r.last,I O r.mille,.slice r.gp r.gn r.gc,I O r.cap,I O r.env,I O r.unit,I O r.width] 29)).alloc (.cells #[I O rf.farm,I O rf.day,.slice rf.lp rf.ln rf.lc] 47))).alloc mle (.cells #[I O rf.farm,I O rf.day,.slice rf.lp rf.ln rf.lc] 47)).block (w.heap.size+1) (by simp),← e]
  exact Array.getElem?_push_size)
 simp only[yCells]at FA ⊢;simp only[fCells];clear h hF;obtain⟨c,ec⟩:∃c,xG l [f]=c:=⟨_,rfl⟩;rw[ec]at FA;have EC:=mh ec;clear ec;have e2:((w.alloc (.cells #[.slice r.sp r.sn r.sc,.slice r.tp r.tn r.tc,I O r.due,I O r.last,I O r.mille,.slice r.gp r.gn r.gc,I O r.cap,I O r.env,I O r.unit,I O r.width] 29)).alloc (.cells #[I O rf.farm,I O rf.day,.slice rf.lp rf.ln rf.lc] 47)).heap.size=w.heap.size+2:=by simp
 rw[e2]at FA;clear e2
 by_cases hc:c=0
 rotate_left
 ·have hne:(c != 0)=true:=by simpa using hc
  have HNE:=mh hc;have ER:=mh (show farmErr l f=c from by unfold farmErr;rw[EC.out,if_pos hc]);clear hc
  go_enter Tryz.func24,Tryz.ntmps24
  go_wp2_with (go_at_call 15;(with_reducible refine cmo FA.out ?_);rintro e w1 ⟨rfl,hb1⟩;have HB1:=mh (qZ mle HB hb1);clear hb1)
  exact bodyPost_ret (v := .tuple #[.slice none 0 0,.slice none 0 0,I O c]) (by simp[results,Tryz.results24,go_sem]) rfl (FrG.err ER HNE HB1)
 subst hc;have FO:=mh (fOk EC);have ER:=mh (show farmErr l f=Ce.farmErr l.deg l.cap (qY (qC l f)) from by unfold farmErr;rw[EC.out,if_neg (by simp)]);obtain⟨E,eE⟩:∃E,Ce.farmErr l.deg l.cap (qY (qC l f))=E:=⟨_,rfl⟩;have EE:=mh eE
 have CP:=mh (fun (W:World) (hb:Below (((w.alloc (.cells #[.slice r.sp r.sn r.sc,.slice r.tp r.tn r.tc,I O r.due,I O r.last,I O r.mille,.slice r.gp r.gn r.gc,I O r.cap,I O r.env,I O r.unit,I O r.width] 29)).alloc (.cells #[I O rf.farm,I O rf.day,.slice rf.lp rf.ln rf.lc] 47)).alloc (.cells #[I O rf.farm,I O rf.day,.slice rf.lp rf.ln rf.lc] 47)).heap.size (((w.alloc (.cells #[.slice r.sp r.sn r.sc,.slice r.tp r.tn r.tc,I O r.due,I O r.last,I O r.mille,.slice r.gp r.gn r.gc,I O r.cap,I O r.env,I O r.unit,I O r.width] 29)).alloc (.cells #[I O rf.farm,I O rf.day,.slice rf.lp rf.ln rf.lc] 47)).alloc (.cells #[I O rf.farm,I O rf.day,.slice rf.lp rf.ln rf.lc] 47)) W)=>show Calls Tryz.prog 64 #[.pointer (some ⟨W.heap.size,0,none⟩)] (W.alloc (.cells #[.slice r.sp r.sn r.sc,.slice r.tp r.tn r.tc,I O r.due,I O r.last,I O r.mille,.slice r.gp r.gn r.gc,I O r.cap,I O r.env,I O r.unit,I O r.width,I O rf.farm,I O rf.day,.slice rf.lp rf.ln rf.lc,.slice none 0 0,.slice none 0 0] 118)) (CpG W.heap.size r rf l f E (W.alloc (.cells #[.slice r.sp r.sn r.sc,.slice r.tp r.tn r.tc,I O r.due,I O r.last,I O r.mille,.slice r.gp r.gn r.gc,I O r.cap,I O r.env,I O r.unit,I O r.width,I O rf.farm,I O rf.day,.slice rf.lp rf.ln rf.lc,.slice none 0 0,.slice none 0 0] 118))) from by
  have hA:=(brf W.heap.size W).alloc mle (.cells #[.slice r.sp r.sn r.sc,.slice r.tp r.tn r.tc,I O r.due,I O r.last,I O r.mille,.slice r.gp r.gn r.gc,I O r.cap,I O r.env,I O r.unit,I O r.width,I O rf.farm,I O rf.day,.slice rf.lp rf.ln rf.lc,.slice none 0 0,.slice none 0 0] 118)
  exact eE▸pU d W.heap.size r l rf f (W.alloc (.cells #[.slice r.sp r.sn r.sc,.slice r.tp r.tn r.tc,I O r.due,I O r.last,I O r.mille,.slice r.gp r.gn r.gc,I O r.cap,I O r.env,I O r.unit,I O r.width,I O rf.farm,I O rf.day,.slice rf.lp rf.ln rf.lc,.slice none 0 0,.slice none 0 0] 118)) (zD.box W r rf (.slice none 0 0) (.slice none 0 0)) (((HY.below hb).lt).change hA.size fun b q hl=>⟨hA.block b q,q⟩) (((HF2.below hb).lt).change hA.size fun b q hl=>⟨hA.block b q,q⟩) FO.law (FO.farm f List.mem_cons_self))
 clear eE;have EF:=mh (show farmErr l f=E from ER.trans EE)
 by_cases hE:E=0
 ·subst hE
  have EA:=mh (show jV l f=jT (qC l f) (Ce.farm l.deg l.cap (qY (qC l f))) from by unfold jV;rw[if_neg (by rw[EF.out];simp)]);have ES:=mh (show gD l f=xN l f from by unfold gD;rw[if_neg (by rw[EF.out];simp)])
  go_enter Tryz.func24,Tryz.ntmps24
  go_wp2_with (first
   | (go_at_call 15;(with_reducible refine cmo FA.out ?_);rintro e w1 ⟨rfl,hb1⟩;have HB0:=mh hb1;have HB1:=mh (qZ mle HB hb1);have B1:=mh (Blk.below BY hb1);have B2:=mh (Blk.below BF hb1);have y0:=B1.cell 0;have y1:=B1.cell 1;have y2:=B1.cell 2;have y3:=B1.cell 3;have y4:=B1.cell 4;have y5:=B1.cell 5;have y6:=B1.cell 6;have y7:=B1.cell 7;have y8:=B1.cell 8;have y9:=B1.cell 9;have f0:=B2.cell 0;  have f1:=B2.cell 1;  have f2:=B2.cell 2;clear hb1)
   | (go_at_call 64;(with_reducible refine cmo (CP.out _ HB0.out) ?_);rintro e w2 hcp;have HCP:=mh hcp;obtain⟨rfl, -, -⟩:=hcp)|fail)
  obtain⟨-,hlow,hfin⟩:=HCP.out;obtain⟨va,vr,hac,hoa,hor⟩:=hfin rfl;have HAC:=mh hac;have HOA:=mh hoa;have HOR:=mh hor;have HLW:=mh hlow;have a13:=hac.cell 13 _ rfl;have a14:=hac.cell 14 _ rfl;clear hlow hfin hac hoa hor
  go_quiet (fail)
  go_wp2
  refine bodyPost_ret (v := .tuple #[va,vr,I O 0]) (by simp[results,Tryz.results24,go_sem]) rfl ⟨va,vr,by rw[EF.out],?_,?_,?_⟩
  ·rw[EA.out]
   exact(HOA.mono (by have:=HB1.size;omega)).below (qQ _ _)
  ·rw[ES.out]
   exact(HOR.mono (by have:=HB1.size;omega)).below (qQ _ _)
  ·refine qH (HB1.trans ?_) ?_ (qQ _ _)
   ·exact(((brf w1.heap.size w1).alloc mle (.cells #[.slice r.sp r.sn r.sc,.slice r.tp r.tn r.tc,I O r.due,I O r.last,I O r.mille,.slice r.gp r.gn r.gc,I O r.cap,I O r.env,I O r.unit,I O r.width,I O rf.farm,I O rf.day,.slice rf.lp rf.ln rf.lc,.slice none 0 0,.slice none 0 0] 118)).trans HLW).mono HB1.size
   ·have h1:=HLW.size;have h2:=HB1.size;rw[World.size_alloc]at h1;omega
 ·have hne:(E != 0)=true:=by simpa using hE
  have HNE:=mh hE;clear hE
  go_enter Tryz.func24,Tryz.ntmps24
  go_wp2_with (first
   | (go_at_call 15;(with_reducible refine cmo FA.out ?_);rintro e w1 ⟨rfl,hb1⟩;have HB0:=mh hb1;have HB1:=mh (qZ mle HB hb1);have B1:=mh (Blk.below BY hb1);have B2:=mh (Blk.below BF hb1);have y0:=B1.cell 0;have y1:=B1.cell 1;have y2:=B1.cell 2;have y3:=B1.cell 3;have y4:=B1.cell 4;have y5:=B1.cell 5;have y6:=B1.cell 6;have y7:=B1.cell 7;have y8:=B1.cell 8;have y9:=B1.cell 9;have f0:=B2.cell 0;  have f1:=B2.cell 1;  have f2:=B2.cell 2;clear hb1)
   | (go_at_call 64;(with_reducible refine cmo (CP.out _ HB0.out) ?_);rintro e w2 hcp;have HCP:=mh hcp;obtain⟨rfl, -, -⟩:=hcp)|fail)
  exact bodyPost_ret (v := .tuple #[.slice none 0 0,.slice none 0 0,I O E]) (by simp[results,Tryz.results24,go_sem]) rfl (FrG.err EF HNE (HB1.trans ((((brf w1.heap.size w1).alloc mle (.cells #[.slice r.sp r.sn r.sc,.slice r.tp r.tn r.tc,I O r.due,I O r.last,I O r.mille,.slice r.gp r.gn r.gc,I O r.cap,I O r.env,I O r.unit,I O r.width,I O rf.farm,I O rf.day,.slice rf.lp rf.ln rf.lc,.slice none 0 0,.slice none 0 0] 118)).trans HCP.2.1).mono HB1.size)))
def UGive (e u:Int) (l:List Int) (w:World) (en:Ending) (w' : World):Prop :=
 (En.Good e u l∧∃q c,en = .returned (.tuple #[.slice q l.length c,I O (En.usum u l),I O 0])∧qR w' q (En.units u l)∧Below w.heap.size w w') ∨
 (¬En.Good e u l∧en = .returned (.tuple #[.slice none 0 0,I O 0,I O 67])∧Below w.heap.size w w')
theorem wT (e u:Int)(p:Option Addr)(l:List Int)(cap:Nat)(w:World)(h:qR w p l)(hg:En.Good e u [])(hl:l.length≤64) :
  Calls Tryz.prog 97 #[I O e,I O u,.slice p l.length cap] w (UGive e u l w):=by
 have H:=mh h;have G:=mh hg;have e0:=hg.e0;have e1:=hg.e1;have u0:=hg.u0;have u1:=hg.u1;have hu0:¬u=0:=by omega
 clear h hg
 go_enter Tryz.func97,Tryz.ntmps97
 go_wp2
 obtain⟨i0,hi,hz0,hz1,hz2⟩:=info_parts yS;have HI:=mh (And.intro hi (And.intro hz0 (And.intro hz1 hz2)));clear hi hz0 hz1 hz2
 go_loopw [12,11,10,9] (fun i s t v wr=>∃k:Nat,k≤l.length∧i=I O k∧s=I O (Sh.sum (l.take k))∧t=I O (En.usum u (l.take k))∧En.Good e u (l.take k)∧Own wr 3 w.heap.size v (En.units u (l.take k))∧Below w.heap.size w wr) (fun i _ _ _ _=>l.length - (intOf i).toNat)
 case atStart=>exact⟨0,Nat.zero_le _,rfl,by simp[Sh.sum],rfl,G.out,Own.nil _ _ _,brf _ _⟩
 case round =>
  obtain⟨k,hk,rfl,rfl,rfl,hGk,hown,hbw⟩:=hrel;have GK:=mh hGk;have HO:=mh hown;have HB:=mh hbw;have hs0:=GK.sum k;have hus:=GK.usum k;rw[List.take_take,Nat.min_self]at hs0 hus;have hsz:=hbw.size
  by_cases hlt:k<l.length
  ·obtain⟨b,off,x,rfl,hbl,hcell0,hx⟩:=H.get hlt
   have hcell:wr.cell? ⟨b,off+k,none⟩=some (I O x):=(hbw.cell (p:=⟨b,off+k,none⟩) hbl).trans hcell0;have hst:=mh (En.take_snoc hlt);clear hGk hown hbw hcell0
   by_cases hxb:0≤x∧x≤68719476736
   case neg =>
    have hxb' : x<0∨68719476736<x:=by omega
    have hbad:¬En.Good e u l:=fun hG=>by
     have:=hG.all x (by rw[← hx.out,List.getD_eq_getElem?_getD,List.getElem?_eq_getElem hlt];exact List.getElem_mem hlt);omega
    have HBAD:=mh hbad;clear hxb hbad
    go_wp2
    all_goals
     go_ret3
     exact .inr ⟨HBAD.out,rfl,HB.out⟩
   have hG1:En.Good e u (l.take k ++ [x]):=GK.snoc hxb (by rw[List.length_take];omega);have hs1:=hG1.sum (k+1);have hus1:=hG1.usum (k+1);have hlk:(l.take k ++ [x]).length=k+1:=by simp;omega
   rw[List.take_of_length_le (by omega),Sh.sum_snoc]at hs1;rw[List.take_of_length_le (by omega),En.usum_snoc]at hus1;have HG1:=mh hG1;clear hG1 hlk;have x0:0≤x / u:=Int.ediv_nonneg hxb.1 (by omega);have x1:x / u≤68719476736:=by have:=Int.ediv_le_self u hxb.1;omega
   have hdq:IntKind.i64.wrap (x.tdiv u)=x / u:=by
    rw[Int.tdiv_eq_ediv_of_nonneg hxb.1];generalize x / u=y at x0 x1 ⊢;rw[IntKind.wrap_i64];omega
   go_wp2_with (first|(at_builtin;(refine Own.append HI.1 HI.2.1 HI.2.2.1 HI.2.2.2 Tryz.underlying22 rfl (.tmp 52) (.tmp 59) rfl w.heap.size _ _ _ HO rfl rfl (by omega) (by rw[En.units_len,List.length_take];omega) ?_);intro v1 w1 hown1 hb1;have hcell1:=(hb1.cell (p:=⟨b,off+k,none⟩) hbl).trans hcell))
   have HO1:=mh hown1;have HB1:=mh (HB.trans hb1);clear hown1 hb1
   go_roundw
   case rel=>exact⟨k+1,by omega,by go_num,by rw[hst.out,hx.out,Sh.sum_snoc],by rw[hst.out,hx.out,En.usum_snoc],by rw[hst.out,hx.out];exact HG1.out,by rw[hst.out,hx.out,En.units_snoc];exact HO1.out,HB1.out⟩
   case measure=>simp[intOf];omega
  ·obtain rfl:k=l.length:=by omega
   rw[List.take_length]at hs0 hus GK HO;obtain⟨p4,c4,rfl,hI4⟩:=HO.ints;have HI4:=mh hI4;clear hI4 hGk hown hbw hlt hk;rw[List.take_length]
   go_wp2
   go_ret3
   exact .inl ⟨GK.out,p4,c4,by rw[En.units_len];rfl,HI4.out,HB.out⟩
theorem sX (e u:Int)(p:Option Addr)(l:List Int)(cap:Nat)(w:World)(h:qR w p l)(hg:En.Good e u l) :
  Calls Tryz.prog 97 #[I O e,I O u,.slice p l.length cap] w fun en w' => ∃q c,en = .returned (.tuple #[.slice q l.length c,I O (En.usum u l),I O 0])∧qR w' q (En.units u l)∧Below w.heap.size w w' :=by
 refine(wT e u p l cap w h ⟨hg.e0,hg.e1,hg.u0,hg.u1,by simp,by simp⟩ hg.len).mono fun en w' hu=>?_
 rcases hu with⟨_,h2⟩|⟨h1,_⟩
 ·exact h2
 ·exact absurd hg h1
theorem rS (e u:Int)(p:Option Addr)(l:List Int)(cap:Nat)(w:World)(h:qR w p l)(hg:En.err e u l≠0) :
  Calls Tryz.prog 97 #[I O e,I O u,.slice p l.length cap] w fun en w' => en = .returned (.tuple #[.slice none 0 0,I O 0,I O (En.err e u l)])∧Below w.heap.size w w' :=by
 by_cases h1:En.money e=false
 ·have h1' := En.money_not.1 h1
  have he:En.err e u l=67:=by unfold En.err;rw[if_pos h1]
  rw[he];clear hg
  go_enter Tryz.func97,Tryz.ntmps97
  go_wp2
  all_goals
   go_ret3
   exact⟨rfl,brf _ _⟩
 have m:=En.money_iff.1 (show En.money e=true by simpa using h1)
 by_cases h2:u<1∨100000<u
 ·have he:En.err e u l=2:=by unfold En.err;rw[if_neg h1,if_pos h2]
  rw[he];clear hg
  go_enter Tryz.func97,Tryz.ntmps97
  go_wp2
  all_goals
   go_ret3
   exact⟨rfl,brf _ _⟩
 by_cases h3:64<l.length
 ·have he:En.err e u l=1:=by unfold En.err;rw[if_neg h1,if_neg h2,if_pos h3]
  rw[he];have u0:1≤u:=by omega
  have u1:u≤100000:=by omega
  have hl:(64:Int)<(l.length:Int):=by omega
  clear hg h2
  go_enter Tryz.func97,Tryz.ntmps97
  go_wp2
  all_goals
   go_ret3
   exact⟨rfl,brf _ _⟩
 have hb:¬En.Good e u l:=fun hG=>hg (En.err_of hG)
 have he:En.err e u l=67:=by
  unfold En.err at hg ⊢;rw[if_neg h1,if_neg h2,if_neg h3]at hg ⊢
  split at hg
  ·rw[if_pos (by assumption)]
  ·exact absurd rfl hg
 rw[he];refine(wT e u p l cap w h ⟨m.1,m.2,by omega,by omega,by simp,by simp⟩ (by omega)).mono fun en w' hu=>?_
 rcases hu with⟨h2,_⟩|⟨_,h2⟩
 ·exact absurd h2 hb
 ·exact h2
theorem rC (e u:Int)(p:Option Addr)(l:List Int)(cap:Nat)(w:World)(h:qR w p l)(hg:En.err e u l≠0) :
  Calls Tryz.prog 61 #[I O e,I O u,.slice p l.length cap] w (zK w (En.scale e u l) (En.err e u l)):=by
 have hs:En.scale e u l = []:=by unfold En.scale;rw[if_neg hg]
 rw[hs];have hc:=mh (rS e u p l cap w h hg);clear h hs
 go_enter Tryz.func61,Tryz.ntmps61
 go_wp2_with (first|(go_at_call 97;refine(hc.out).mono ?_;rintro en w1 ⟨rfl,hb1⟩))
 go_ret2
 exact⟨none,0,rfl,qR.nil _ _,hb1,fun _ h=>by cases h⟩
theorem sJ (t:Int)(p:Option Addr)(zs:List Int)(n cap:Nat)(w:World)(h:qR w p zs)(hn:zs.length=n)(he:shErr t zs=0) :
  Calls Tryz.prog 98 #[I O t,.slice p n cap] w (kE w (jD t zs) 0):=by subst hn;rw[← he];exact pE t p zs cap w h
theorem pA (e u:Int)(p:Option Addr)(l:List Int)(cap:Nat)(w:World)(h:qR w p l)(hg:En.err e u l=0) :
  Calls Tryz.prog 61 #[I O e,I O u,.slice p l.length cap] w (zK w (En.scale e u l) 0):=by
 have hG:=mh (En.good_of hg);have hc:=mh (sX e u p l cap w h hG.out);have HL:=mh (@En.units_len u l);have HE:=mh (pJ hG.out);have hu0:¬u=0:=by have:=hG.out.u0;omega
 have hdq:IntKind.i64.wrap (e.tdiv u)=e / u:=by
  have q0:0≤e / u:=Int.ediv_nonneg hG.out.e0 (by have:=hG.out.u0;omega);have q1:e / u≤e:=Int.ediv_le_self u hG.out.e0;have:=hG.out.e1;rw[Int.tdiv_eq_ediv_of_nonneg hG.out.e0];generalize e / u=y at q0 q1 ⊢;rw[IntKind.wrap_i64];omega
 clear h
 by_cases hq:e / u<En.usum u l
 ·go_enter Tryz.func61,Tryz.ntmps61
  go_wp2_with (first|(go_at_call 97;refine(hc.out).mono ?_;rintro en w1 ⟨q,c,rfl,hI,hb1⟩)|(go_at_call 98;refine(sJ _ _ _ _ _ _ hI HL HE).mono ?_;rintro en w3 ⟨p3,c3,rfl,hI3,hb3⟩))
  have hsc:En.scale e u l=(jD (e / u) (En.units u l)).map fun x=>x*u:=by unfold En.scale En.paid;rw[if_pos hg,if_pos hq]
  have hzb:∀x∈jD (e / u) (En.units u l),0≤x∧x≤68719476736:=fun x hx=>by
   have h:=(wG HE).1 x hx;have:=Int.ediv_le_self u hG.out.e0;have:=hG.out.e1;omega
  have hzn:(jD (e / u) (En.units u l)).length≤64:=by rw[(wG HE.out).2,En.units_len];exact hG.out.len
  have hbel:Below w.heap.size w w3:=qH hb1 hb1.size hb3;have hIz:=hI3;have hsc:=mh hsc;clear hI hI3 hb1 hb3 HL HE hc hq hg hdq;generalize jD (e / u) (En.units u l)=zs at *;obtain⟨wz,rfl⟩:∃wz:World,wz=w3:=⟨_,rfl⟩;obtain⟨i0,hi,hz0,hz1,hz2⟩:=info_parts yS;have HI:=mh (And.intro hi (And.intro hz0 (And.intro hz1 hz2)));clear hi hz0 hz1 hz2;have u1:=hG.out.u1;have u0:=hG.out.u0;have BEL:=mh hbel;have HZ:=mh hIz;have ZB:=mh hzb;have hzl:=hIz.len;clear hbel hIz hzb
  go_loopw [12,11] (fun i v wr=>∃k:Nat,k≤zs.length∧i=I O k∧Own wr 3 wz.heap.size v ((zs.take k).map fun x=>x*u)∧Below wz.heap.size wz wr) (fun i _ _=>zs.length - (intOf i).toNat)
  case atStart=>exact⟨0,Nat.zero_le _,rfl,Own.nil _ _ _,brf _ _⟩
  case round =>
   obtain⟨k,hk,rfl,hown,hbw⟩:=hrel;have HO:=mh hown;have HB:=mh hbw;have hsz:=hbw.size
   by_cases hlt:k<zs.length
   ·obtain⟨b,off,x,rfl,hbl,hcell0,hx⟩:=HZ.get hlt
    have hcell:=(hbw.cell (p:=⟨b,off+k,none⟩) hbl).trans hcell0;have hst:=mh (En.take_snoc hlt);have hxb:0≤x∧x≤68719476736:=by
     rw[← hx.out,List.getD_eq_getElem?_getD,List.getElem?_eq_getElem hlt];exact ZB _ (List.getElem_mem hlt)
    have hm0:0≤x*u:=Int.mul_nonneg hxb.1 (by omega);have hm1:x*u≤68719476736*100000:=Int.mul_le_mul hxb.2 u1 (by omega) (by omega);have hmw:IntKind.i64.wrap (x*u)=x*u:=by
     generalize x*u=y at hm0 hm1 ⊢;rw[IntKind.wrap_i64];omega
    clear hown hbw hcell0
    go_wp2_with (first|(at_builtin;(refine Own.append HI.1 HI.2.1 HI.2.2.1 HI.2.2.2 Tryz.underlying22 rfl (.tmp 46) (.tmp 53) rfl wz.heap.size _ _ _ HO rfl rfl (by omega) (by rw[List.length_map,List.length_take];omega) ?_);intro v1 w5 hown1 hb5))
    have HO5:=mh hown1;have HB5:=mh (HB.trans hb5);clear hown1 hb5
    go_roundw
    case rel=>exact⟨k+1,by omega,by go_num,by rw[hst.out,hx.out];simpa using HO5.out,HB5.out⟩
    case measure=>simp[intOf];omega
   ·obtain rfl:k=zs.length:=by omega
    rw[List.take_length]at HO;obtain⟨p4,c4,rfl,hI4,hn4⟩:=HO.intsN;have HI4:=mh hI4;have HN4:=mh hn4;clear hI4 hn4 hown hbw hlt hk
    go_wp2
    go_ret2
    exact⟨p4,c4,by rw[hsc.out];simp,by rw[hsc.out];exact HI4.out,qH BEL BEL.size HB.out,fun a h=>Nat.le_trans BEL.size (HN4 a h)⟩
 ·go_enter Tryz.func61,Tryz.ntmps61
  go_wp2_with (first|(go_at_call 97;refine(hc.out).mono ?_;rintro en w1 ⟨q,c,rfl,hI,hb1⟩))
  rw[← HL.out];have hsc:=mh (show En.scale e u l=(En.units u l).map fun x=>x*u by unfold En.scale En.paid;rw[if_pos hg,if_neg (by omega)]);have hzb:∀x∈En.units u l,0≤x∧x≤68719476736:=hG.out.unit;have hzn:(En.units u l).length≤64:=by rw[En.units_len];exact hG.out.len
  have hbel:Below w.heap.size w w1:=hb1;have hIz:=hI;clear hI hb1 HL HE hc hq hg hdq;generalize En.units u l=zs at *;obtain⟨wz,rfl⟩:∃wz:World,wz=w1:=⟨_,rfl⟩;obtain⟨i0,hi,hz0,hz1,hz2⟩:=info_parts yS;have HI:=mh (And.intro hi (And.intro hz0 (And.intro hz1 hz2)));clear hi hz0 hz1 hz2;have u1:=hG.out.u1;have u0:=hG.out.u0;have BEL:=mh hbel;have HZ:=mh hIz;have ZB:=mh hzb;have hzl:=hIz.len;clear hbel hIz hzb
  go_loopw [12,11] (fun i v wr=>∃k:Nat,k≤zs.length∧i=I O k∧Own wr 3 wz.heap.size v ((zs.take k).map fun x=>x*u)∧Below wz.heap.size wz wr) (fun i _ _=>zs.length - (intOf i).toNat)
  case atStart=>exact⟨0,Nat.zero_le _,rfl,Own.nil _ _ _,brf _ _⟩
  case round =>
   obtain⟨k,hk,rfl,hown,hbw⟩:=hrel;have HO:=mh hown;have HB:=mh hbw;have hsz:=hbw.size
   by_cases hlt:k<zs.length
   ·obtain⟨b,off,x,rfl,hbl,hcell0,hx⟩:=HZ.get hlt
    have hcell:=(hbw.cell (p:=⟨b,off+k,none⟩) hbl).trans hcell0;have hst:=mh (En.take_snoc hlt);have hxb:0≤x∧x≤68719476736:=by
     rw[← hx.out,List.getD_eq_getElem?_getD,List.getElem?_eq_getElem hlt];exact ZB _ (List.getElem_mem hlt)
    have hm0:0≤x*u:=Int.mul_nonneg hxb.1 (by omega);have hm1:x*u≤68719476736*100000:=Int.mul_le_mul hxb.2 u1 (by omega) (by omega);have hmw:IntKind.i64.wrap (x*u)=x*u:=by
     generalize x*u=y at hm0 hm1 ⊢;rw[IntKind.wrap_i64];omega
    clear hown hbw hcell0
    go_wp2_with (first|(at_builtin;(refine Own.append HI.1 HI.2.1 HI.2.2.1 HI.2.2.2 Tryz.underlying22 rfl (.tmp 46) (.tmp 53) rfl wz.heap.size _ _ _ HO rfl rfl (by omega) (by rw[List.length_map,List.length_take];omega) ?_);intro v1 w5 hown1 hb5))
    have HO5:=mh hown1;have HB5:=mh (HB.trans hb5);clear hown1 hb5
    go_roundw
    case rel=>exact⟨k+1,by omega,by go_num,by rw[hst.out,hx.out];simpa using HO5.out,HB5.out⟩
    case measure=>simp[intOf];omega
   ·obtain rfl:k=zs.length:=by omega
    rw[List.take_length]at HO;obtain⟨p4,c4,rfl,hI4,hn4⟩:=HO.intsN;have HI4:=mh hI4;have HN4:=mh hn4;clear hI4 hn4 hown hbw hlt hk
    go_wp2
    go_ret2
    exact⟨p4,c4,by rw[hsc.out];simp,by rw[hsc.out];exact HI4.out,qH BEL BEL.size HB.out,fun a h=>Nat.le_trans BEL.size (HN4 a h)⟩
theorem vKA (e u:Int)(p:Option Addr)(l:List Int)(cap:Nat)(w:World)(h:qR w p l) :
  Calls Tryz.prog 60 #[I O e,I O u,.slice p l.length cap] w (zK w (En.scale e u l) (En.err e u l)):=by
 by_cases hg:En.err e u l=0
 ·have:=zMA e u p l cap w h hg
  rw[hg];exact this
 ·exact vVA e u p l cap w h hg
theorem rB (e u:Int)(p:Option Addr)(l:List Int)(cap:Nat)(w:World)(h:qR w p l) :
  Calls Tryz.prog 61 #[I O e,I O u,.slice p l.length cap] w (zK w (En.scale e u l) (En.err e u l)):=by
 by_cases hg:En.err e u l=0
 ·have:=pA e u p l cap w h hg
  rw[hg];exact this
 ·exact rC e u p l cap w h hg
theorem fL {Q Q2:Nat→Prop}(d:Nat)(r:RY)(l:YLaw)(p:Option Addr)(F:List FarmF)(cap:Nat)(w:World)(h:YV Q w d r l)(hF:yF Q2 w p F) :
  Calls Tryz.prog 17 #[.agg (yCells r).toArray,.slice p F.length cap] w (AsG l F w):=by
 have hlen:=hF.len;have HB:=mh (qK mle (brf w.heap.size w) (.cells #[.slice r.sp r.sn r.sc,.slice r.tp r.tn r.tc,I O r.due,I O r.last,I O r.mille,.slice r.gp r.gn r.gc,I O r.cap,I O r.env,I O r.unit,I O r.width] 29));have FA:=mh (uS d r l p F cap (w.alloc (.cells #[.slice r.sp r.sn r.sc,.slice r.tp r.tn r.tc,I O r.due,I O r.last,I O r.mille,.slice r.gp r.gn r.gc,I O r.cap,I O r.env,I O r.unit,I O r.width] 29)) (h.below HB) h.sc (hF.below HB));have FR:=mh (fun (W:World) (hb:Below w.heap.size w W) (y:RF) (f:FarmF) (W' : World) (hb' : Below W.heap.size W W') (hv:FV Q2 W y f)=>dR d r l y f W' ((h.below hb).below hb') (hv.below hb'));have HF:=mh hF;have BY:=mh (Blk.new w #[.slice r.sp r.sn r.sc,.slice r.tp r.tn r.tc,I O r.due,I O r.last,I O r.mille,.slice r.gp r.gn r.gc,I O r.cap,I O r.env,I O r.unit,I O r.width] 29);have HRE:=mh (And.intro h.env h.unit);simp only[yCells]at FA FR ⊢;clear h hF;obtain⟨c,ec⟩:∃c,xG l F=c:=⟨_,rfl⟩;rw[ec]at FA;have EC:=mh ec;clear ec
 by_cases hc:c=0
 rotate_left
 ·have hne:(c != 0)=true:=by simpa using hc
  have ER:=mh (show jR l F=c from by unfold jR;rw[EC.out,if_pos hc]);have HNE:=mh hc;clear hc
  go_enter Tryz.func17,Tryz.ntmps17
  go_wp2_with (go_at_call 15;(with_reducible refine cmo FA.out ?_);rintro e w1 ⟨rfl,hb1⟩;have HB1:=mh (qZ mle HB hb1);clear hb1)
  go_ret2
  exact AsG.err ER HNE HB1.out
 subst hc;have FO:=mh (fOk EC);have hF10:=FO.len;have NE0:((0:Int) != 0)=false:=by decide
 go_enter Tryz.func17,Tryz.ntmps17
 go_wp2_with (go_at_call 15;(with_reducible refine cmo FA.out ?_);rintro e w1 ⟨rfl,hb1⟩;have HB1:=mh (qZ mle HB hb1);have BY1:=mh (BY.below hb1);clear hb1)
 go_loopw [7,28] (fun out i W=>∃k:Nat,k≤F.length∧i=I O k∧jL l (F.take k)=0∧qX SA W 91 w1.heap.size out (jY l (F.take k))∧Below w1.heap.size w1 W) (fun _ i _=>F.length - (intOf i).toNat)
 case atStart=>exact⟨0,Nat.zero_le _,rfl,rfl,qX.nil _ _ _,brf _ _⟩
 case round =>
  obtain⟨wo,rfl⟩:∃wo:World,wo=wr:=⟨_,rfl⟩;obtain⟨k,hk,rfl,her,hO,hb⟩:=hrel;have HO:=mh hO;have HER:=mh her;have HBO:=mh hb;have HWO:=mh (show Below w.heap.size w wo from HB1.trans (hb.mono HB1.size));have hk0:(0:Int)≤(k:Int):=inn _;clear hO her
  by_cases hlt:k<F.length
  ·have hk1:(k:Int)<(F.length:Int):=by omega
   have BYO:=mh (Blk.below BY1 (hb.mono mle));obtain⟨b,off,⟨fa,da,lp,ln,lc⟩,rfl,hbl,⟨c0,c1,c2⟩,hv⟩:=(HF.below HWO).at hlt;simp only at c0 c1 c2;have ST:=mh (tsg hlt)
   have HLE:=mh (show(jY l (F.take k)).length≤160∧(jV l F[k]).length≤16 from by
    have h1:=uU l (F.take k);have h2:=dC l F[k];have h3:=FO.law.len;have h4:(F.take k).length≤10:=by rw[List.length_take];omega
    have h5:(F.take k).length*l.sch.length≤10*16:=Nat.mul_le_mul h4 h3
    omega)
   have BAD:=mh (fun h=>allErr_bad (l:=l) hlt HER h);obtain⟨f,ef⟩:∃f,F[k]=f:=⟨_,rfl⟩;rw[ef]at hv ST HLE BAD;have hba:=(brf wo.heap.size wo).alloc mle (.cells #[I O fa,I O da,.slice lp ln lc] 47);have FRc:=mh (FR wo HWO ⟨fa,da,lp,ln,lc⟩ f (wo.alloc (.cells #[I O fa,I O da,.slice lp ln lc] 47)) hba hv);simp only[fCells]at FRc;have B2:=mh (BYO.below hba);have y0:=B2.cell 0;have y1:=B2.cell 1;have y2:=B2.cell 2;have y3:=B2.cell 3;have y4:=B2.cell 4;have y5:=B2.cell 5;have y6:=B2.cell 6;have y7:=B2.cell 7;have y8:=B2.cell 8;have y9:=B2.cell 9;have HO2:=mh (HO.below hba);have HB2:=mh (hb.trans (hba.mono hb.size));unfold FrG at FRc;obtain⟨E,eE⟩:∃E,farmErr l f=E:=⟨_,rfl⟩;rw[eE]at FRc BAD;have EE:=mh eE;clear hv ef hba eE hbl hb
   by_cases hE:E=0
   ·subst hE
    go_wp2_with (first|(go_at_call 24;(with_reducible refine cmo FRc.out ?_);rintro e w3 ⟨va,vr,rfl,hoa,hor,hb3⟩;obtain⟨pa,ca,rfl,hpn, -, -, -,hra⟩:=hoa.cut rfl;have HRA:=mh hra;have HPN:=mh (fun e=>(hpn e).1);have HO3:=mh (HO2.below hb3);have HB3:=mh (HB2.trans (hb3.mono HB2.size));clear hoa hor hb3 hpn hra)|(at_builtin;(refine qX.appendAll gN rfl (.tmp 42) (.tmp 43) rfl w1.heap.size _ (jY l (F.take k)) (jV l f) pa ca (jV l f).length rfl HO3 HRA HPN rfl rfl HB3.size (by have:=HLE.out;omega) (by decide) ?_);intro v5 w5 hO5 hap5;have HO5:=mh hO5;have HB5:=mh (HB3.trans hap5.below);clear hO5 hap5)|fail)
    go_roundw
    case rel=>exact⟨k+1,by omega,by go_num,by rw[ST.out,allErr_snoc _ HER.out,EE.out],by rw[ST.out,allAw_snoc];exact HO5.out,HB5.out⟩
    case measure=>simp[intOf];omega
   ·have hne:(E != 0)=true:=by simpa using hE
    have HNE:=mh hE;clear hE;have ER:=mh (show jR l F=E from by unfold jR;rw[EC.out,if_neg (by simp),BAD.out HNE.out,if_pos HNE.out])
    go_wp2_with (go_at_call 24;(with_reducible refine cmo FRc.out ?_);rintro e w3 ⟨va,vr,rfl, -, -,hb3⟩;have HB3:=mh (HB2.trans (hb3.mono HB2.size));clear hb3)
    go_ret2
    exact AsG.err ER HNE (HB1.trans (HB3.mono HB1.size))
  ·obtain rfl:k=F.length:=by omega
   rw[List.take_length]at HER HO;obtain⟨po,co,rfl,hpo,hpb, -, -,hro⟩:=HO.cut rfl;have HRO:=mh hro
   have HLE:=mh (show(jY l F).length≤160 from by
    have h1:=uU l F;have h3:=FO.law.len;have h5:F.length*l.sch.length≤10*16:=Nat.mul_le_mul hF10 h3
    omega)
   have HPB:=mh (fun x e=>(hpb x e).2.2.2);clear hro hpo hpb hk hlt hk0
   by_cases h64:64<(jY l F).length
   ·have ER:=mh (show jR l F=1 from by unfold jR;rw[EC.out,if_neg (by simp),HER.out,if_neg (by simp),if_pos h64])
    have h64i:(64:Int)<((jY l F).length:Int):=by omega
    clear h64
    go_wp2
    go_ret2
    exact AsG.err ER (by decide) HWO.out
   ·have G:=fT FO (show(jY l F).length≤64 by omega)
    have GE:=En.err_of G;have GL:=G.keeps.len;have ER:=mh (show jR l F=0 from by unfold jR;rw[EC.out,if_neg (by simp),HER.out,if_neg (by simp),if_neg h64];exact GE);have EA:=mh (show yP l F=vY (jY l F) (En.scale l.env l.unit (qP (jY l F))) from by unfold yP;rw[if_neg (by rw[ER.out];simp)]);have h64i:¬(64:Int)<((jY l F).length:Int):=by omega
    obtain⟨A,eA⟩:∃A,jY l F=A:=⟨_,rfl⟩;rw[eA]at HO HRO HLE h64i EA GE GL ⊢;have CL:(qP A).length=A.length:=by unfold qP;simp
    obtain⟨C,eC⟩:∃C,En.scale l.env l.unit (qP A)=C:=⟨_,rfl⟩;rw[eC]at EA GL;obtain⟨n,en⟩:∃n,A.length=n:=⟨_,rfl⟩;have HNA:=mh en;have HNC:=mh (show C.length=n from by rw[GL,CL,en]);have hn64:n≤64:=by omega
    have SCL:=mh (fun (W:World) (q:Option Addr) (cq:Nat) (hq:qR W q (qP A))=>show Calls Tryz.prog 60 #[I O r.env,I O r.unit,.slice q n cq] W (zK W C 0) from by
     have:=vKA r.env r.unit q (qP A) cq W hq;rw[HRE.out.1,HRE.out.2,eC,GE,CL,en]at this;rw[HRE.out.1,HRE.out.2]
     exact this)
    rw[en]at h64i HO ⊢;clear h64 G GE GL eA eC CL en;have YO:=mh (Blk.below BY1 (HBO.mono mle))
    go_wp2
    go_loopw [8,51] (fun cv i W=>∃k:Nat,k≤n∧i=I O k∧qX SI W 3 wo.heap.size cv (qP (A.take k))∧Below wo.heap.size wo W) (fun _ i _=>n - (intOf i).toNat)
    case atStart=>exact⟨0,Nat.zero_le _,rfl,qX.nil _ _ _,brf _ _⟩
    case round =>
     obtain⟨wp,rfl⟩:∃wp:World,wp=wr:=⟨_,rfl⟩;obtain⟨k,hk,rfl,hC,hb2⟩:=hrel;have HC:=mh hC;have HB2:=mh hb2;have hk0:(0:Int)≤(k:Int):=inn _;clear hC hb2
     by_cases hlt:k<n
     ·have hk1:(k:Int)<(n:Int):=by omega
      have hkA:k<A.length:=by rw[HNA.out];exact hlt
      obtain⟨b,off,rfl,hbl,⟨c0,c1,c2,c3,c4,c5,c6,c7,c8⟩⟩:=gE (HRO.below HB2) hkA
      have ST:=mh (show qP (A.take (k+1))=qP (A.take k) ++ [A[k].capped] from by
       rw[tsg hkA];unfold qP;rw[List.map_append];rfl)
      have HCL:=mh (show(qP (A.take k)).length≤64 from by unfold qP;rw[List.length_map,List.length_take];omega);obtain⟨x,ex⟩:∃x,A[k]=x:=⟨_,rfl⟩;rw[ex]at c0 c1 c2 c3 c4 c5 c6 c7 c8 ST;have hbx:=(brf wp.heap.size wp).alloc mle (.cells #[I O x.farm,I O x.scheme,I O x.decl,I O x.det,I O x.paid,I O x.rated,I O x.timely,I O x.capped,I O x.due] 91);have HC2:=mh (HC.below hbx);have HBX:=mh (HB2.trans (hbx.mono HB2.size));clear hbl ex hbx
      go_wp2_with (first|(at_builtin;(refine qX.append xR rfl (.tmp 55) (.tmp 58) rfl wo.heap.size _ (qP (A.take k)) x.capped #[I O x.capped] rfl HC2 rfl (by simp[Act.eval]) HBX.size (by have:=HCL.out;omega) (by decide) ?_);intro v5 w5 hO5 hap5;have HO5:=mh hO5;have HB5:=mh (HBX.trans hap5.below);clear hO5 hap5)|fail)
      go_roundw
      case rel=>exact⟨k+1,by omega,by go_num,by rw[ST.out];exact HO5.out,HB5.out⟩
      case measure=>simp[intOf];omega
     ·obtain rfl:k=n:=by omega
      have HC' := mh (show qX SI wp 3 wo.heap.size _ (qP A) from by have:=HC.out;rw[List.take_of_length_le (by rw[HNA.out];exact Nat.le_refl _)]at this;exact this);obtain⟨pc,cc,rfl, -, -, -, -,hrc⟩:=HC'.cut (show(qP A).length=k from by unfold qP;rw[List.length_map,HNA.out]);have SC:=mh (SCL wp pc cc hrc.ints);have YP:=mh (YO.below HB2);have y7:=YP.cell 7;have y8:=YP.cell 8;have HOA:=mh (HO.below HB2);have HBP:=mh (show Below w1.heap.size w1 wp from HBO.trans (HB2.mono HBO.size));clear hrc hk hlt hk0
      go_wp2_with fail
      (with_reducible refine cmo SC.out ?_);rintro e w6 ⟨pF,cF,rfl,hI,hb6,hnw⟩;have CPS:=mh (show DuS wp.heap.size w1.heap.size w1 w6 (.slice po k co) A pF C 0 from⟨by rw[dueN_zero];exact HOA.below hb6,HBP.trans (hb6.mono HBP.size),hI,fun g hg=>(HOA.lt hg).2,hnw⟩);clear hI hb6 hnw
      go_wp2_with fail
      rw[HNC.out]
      go_loopw [75] (fun i W=>∃j:Nat,j≤k∧i=I O j∧DuS wp.heap.size w1.heap.size w1 W (.slice po k co) A pF C j) (fun i _=>k - (intOf i).toNat)
      case atStart=>exact⟨0,Nat.zero_le _,rfl,CPS.out⟩
      case round =>
       obtain⟨wq,rfl⟩:∃wq:World,wq=wr:=⟨_,rfl⟩;obtain⟨j,hj,rfl,hp⟩:=hrel;have HP:=mh hp;clear hp CPS y7 y8;have hj0:(0:Int)≤(j:Int):=inn _
       by_cases hlt:j<k
       ·have hj1:(j:Int)<(k:Int):=by omega
        obtain⟨b,off,x,rfl,hb,hcx,hx⟩:=HP.ints.get (show j<C.length by rw[HNC.out];exact hlt);obtain⟨g,c,u,ev,h8,f8,hset⟩:=HP.set HNA hlt
        cases ev
        rw[hx.out]at hset;have HSET:=mh hset;clear hset hx hb
        go_wp2
        go_roundw
        case rel=>exact⟨j+1,by omega,by go_num,HSET.out⟩
        case measure=>simp[intOf];omega
       ·obtain rfl:j=k:=by omega
        clear hlt
        go_wp2
        go_ret2
        exact⟨_,by rw[ER.out];rfl,by rw[EA.out,← dueN_all,HNA.out];exact HP.oa.mono HB1.size,HB1.trans (HP.low.mono HB1.size)⟩
def As.Due (A:List Awd):Prop:=A.length≤1000∧∀a∈A,0≤a.due∧a.due≤68719476736
theorem As.total_take {A:List Awd}{k:Nat}(hk:k<A.length):total (A.take (k+1))=total (A.take k)+A[k].due:=by
 rw[tsg hk,yQA]
theorem As.Due.bd {A:List Awd}(h:Due A):∀{k:Nat},k≤A.length→0≤total (A.take k)∧total (A.take k)≤68719476736*k
 | 0,_=>by simp[total,Sh.sum]
 | k+1,hk=>by
   have ih:=h.bd (k:=k) (by omega);have:=h.2 A[k] (List.getElem_mem (show k<A.length by omega));rw[total_take (by omega)]
   push_cast
   omega
theorem nQ (p:Option Addr)(A:List Awd)(c:Nat)(w:World)(h:qD SA w p A)(hd:Due A):Calls Tryz.prog 20 #[.slice p A.length c] w (kW (total A) w):=by
 have H:=mh h;have HD:=mh hd;have hlen:=h.len;have hl:=hd.1;clear h hd
 go_enter Tryz.func20,Tryz.ntmps20
 go_wp2
 go_loopw [3,8] (fun s i wr=>∃k:Nat,k≤A.length∧i=I O k∧s=I O (total (A.take k))∧Below w.heap.size w wr) (fun _ i _=>A.length - (intOf i).toNat)
 case atStart=>exact⟨0,Nat.zero_le _,rfl,rfl,brf _ _⟩
 case round =>
  obtain⟨wo,rfl⟩:∃wo:World,wo=wr:=⟨_,rfl⟩;obtain⟨k,hk,rfl,rfl,hb⟩:=hrel;have hk0:(0:Int)≤(k:Int):=inn _;have BD:=HD.bd hk
  by_cases hlt:k<A.length
  ·have hk1:(k:Int)<(A.length:Int):=by omega
   obtain⟨b,off,e,hbl,⟨c0,c1,c2,c3,c4,c5,c6,c7,c8⟩⟩:=gE (H.below hb) hlt
   cases e
   have ST:=total_take hlt;have ha:=HD.2 A[k] (List.getElem_mem hlt);obtain⟨⟨a1,a2,a3,a4,a5,a6,a7,a8,a9⟩,ea⟩:∃a,A[k]=a:=⟨_,rfl⟩;rw[ea]at c0 c1 c2 c3 c4 c5 c6 c7 c8 ST ha;simp only at c0 c1 c2 c3 c4 c5 c6 c7 c8 ST ha;obtain⟨T,eT⟩:∃T,total (A.take k)=T:=⟨_,rfl⟩;rw[eT]at BD ST ⊢;have hw:IntKind.i64.wrap (T+a9)=T+a9:=by rw[IntKind.wrap_i64];omega
   have STH:=mh ST;have HB:=mh (qK mle hb (.cells #[I O a1,I O a2,I O a3,I O a4,I O a5,I O a6,I O a7,I O a8,I O a9] 91));clear ST BD ha ea eT hb
   go_wp2
   go_roundw
   case rel=>exact⟨k+1,by omega,by go_num,by rw[STH.out],HB.out⟩
   case measure=>simp[intOf];omega
  ·obtain rfl:k=A.length:=by omega
   have HB:=mh hb;rw[List.take_length]at *;clear hb
   go_wp2
   go_ret
   exact⟨rfl,HB.out⟩
theorem As.amount_take {A:List Awd}{farm:Int}{k:Nat}(hk:k<A.length):qU (A.take (k+1)) farm=qU (A.take k) farm+if A[k].farm=farm then A[k].due else 0:=by
 unfold qU;rw[tsg hk,List.map_append,List.map_singleton,Sh.sum_snoc]
theorem As.Due.bda {A:List Awd}(h:Due A)(farm:Int):∀{k:Nat},k≤A.length→0≤qU (A.take k) farm∧qU (A.take k) farm≤68719476736*k
 | 0,_=>by simp[qU,Sh.sum]
 | k+1,hk=>by
   have ih:=h.bda farm (k:=k) (by omega);have:=h.2 A[k] (List.getElem_mem (show k<A.length by omega));rw[amount_take (by omega)]
   push_cast
   split<;>omega
theorem fR (p:Option Addr)(A:List Awd)(c:Nat)(farm:Int)(w:World)(h:qD SA w p A)(hd:Due A):Calls Tryz.prog 22 #[.slice p A.length c,I O farm] w (kW (qU A farm) w):=by
 have H:=mh h;have HD:=mh hd;have hlen:=h.len;have hl:=hd.1;clear h hd
 go_enter Tryz.func22,Tryz.ntmps22
 go_wp2
 go_loopw [5,10] (fun s i wr=>∃k:Nat,k≤A.length∧i=I O k∧s=I O (qU (A.take k) farm)∧Below w.heap.size w wr) (fun _ i _=>A.length - (intOf i).toNat)
 case atStart=>exact⟨0,Nat.zero_le _,rfl,rfl,brf _ _⟩
 case round =>
  obtain⟨wo,rfl⟩:∃wo:World,wo=wr:=⟨_,rfl⟩;obtain⟨k,hk,rfl,rfl,hb⟩:=hrel;have hk0:(0:Int)≤(k:Int):=inn _;have BD:=HD.bda farm hk
  by_cases hlt:k<A.length
  ·have hk1:(k:Int)<(A.length:Int):=by omega
   obtain⟨b,off,e,hbl,⟨c0,c1,c2,c3,c4,c5,c6,c7,c8⟩⟩:=gE (H.below hb) hlt
   cases e
   have ST:=amount_take (farm:=farm) hlt;have ha:=HD.2 A[k] (List.getElem_mem hlt);obtain⟨⟨a1,a2,a3,a4,a5,a6,a7,a8,a9⟩,ea⟩:∃a,A[k]=a:=⟨_,rfl⟩;rw[ea]at c0 c1 c2 c3 c4 c5 c6 c7 c8 ST ha;simp only at c0 c1 c2 c3 c4 c5 c6 c7 c8 ST ha;obtain⟨T,eT⟩:∃T,qU (A.take k) farm=T:=⟨_,rfl⟩;rw[eT]at BD ST ⊢;have hw:IntKind.i64.wrap (T+a9)=T+a9:=by rw[IntKind.wrap_i64];omega
   have HB:=mh (qK mle hb (.cells #[I O a1,I O a2,I O a3,I O a4,I O a5,I O a6,I O a7,I O a8,I O a9] 91))
   by_cases hf:a1=farm
   ·have STH:=mh (show qU (A.take (k+1)) farm=T+a9 from by rw[ST,if_pos hf])
    have hfb:(a1==farm)=true:=by simpa using hf
    clear ST BD ha ea eT hb hf
    go_wp2
    go_roundw
    case rel=>exact⟨k+1,by omega,by go_num,by rw[STH.out],HB.out⟩
    case measure=>simp[intOf];omega
   ·have STH:=mh (show qU (A.take (k+1)) farm=T from by rw[ST,if_neg hf,Int.add_zero])
    have hfb:(a1==farm)=false:=by simpa using hf
    clear ST BD ha ea eT hb hf hw
    go_wp2
    go_roundw
    case rel=>exact⟨k+1,by omega,by go_num,by rw[STH.out],HB.out⟩
    case measure=>simp[intOf];omega
  ·obtain rfl:k=A.length:=by omega
   have HB:=mh hb;rw[List.take_length]at *;clear hb
   go_wp2
   go_ret
   exact⟨rfl,HB.out⟩
theorem uE (p:Option Addr)(A:List Awd)(c:Nat)(w:World)(h:qD SA w p A)(hd:Due A):Calls Tryz.prog 21 #[.slice p A.length c] w fun e w' => e = .returned (I O (total A))∧w=w' :=by
 have H:=mh h;have HD:=mh hd;have hlen:=h.len;have hl:=hd.1;clear h hd
 go_enter Tryz.func21,Tryz.ntmps21
 go_wp2
 go_loop [3,4] (fun s i=>∃k:Nat,k≤A.length∧i=I O k∧s=I O (total (A.take k))) (fun _ i=>A.length - (intOf i).toNat)
 case atStart=>exact⟨0,Nat.zero_le _,rfl,rfl⟩
 case round =>
  obtain⟨k,hk,rfl,rfl⟩:=hrel;have hk0:(0:Int)≤(k:Int):=inn _;have BD:=HD.bd hk
  by_cases hlt:k<A.length
  ·have hk1:(k:Int)<(A.length:Int):=by omega
   obtain⟨b,off,e,hbl,⟨c0,c1,c2,c3,c4,c5,c6,c7,c8⟩⟩:=gE H hlt
   cases e
   have ST:=total_take hlt;have ha:=HD.2 A[k] (List.getElem_mem hlt);obtain⟨x,ex⟩:∃x,A[k].due=x:=⟨_,rfl⟩;rw[ex]at c8 ST ha;obtain⟨T,eT⟩:∃T,total (A.take k)=T:=⟨_,rfl⟩;rw[eT]at BD ST ⊢;have hw:IntKind.i64.wrap (T+x)=T+x:=by rw[IntKind.wrap_i64];omega
   have STH:=mh ST;clear ST BD ha ex eT c0 c1 c2 c3 c4 c5 c6 c7
   go_wp2
   go_round
   case rel=>exact⟨k+1,by omega,by go_num,by rw[STH.out]⟩
   case measure=>simp[intOf];omega
  ·obtain rfl:k=A.length:=by omega
   rw[List.take_length]at *
   go_wp2
   go_ret
   exact⟨rfl,rfl⟩
end Go.Proofs.YtefcalgjnkigjaaGreat
