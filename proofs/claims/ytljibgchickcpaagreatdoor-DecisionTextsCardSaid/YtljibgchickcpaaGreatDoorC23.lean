/- Packed. -/
import Derived.Test.YtljibgchickcpaaGreatDoorC21
import Derived.Test.YtljibgchickcpaaGreatDoorC22
set_option maxRecDepth 100000
set_option maxHeartbeats 8000000
open Go.Value renaming int → I
open Go.IntKind renaming i64 → O
namespace Go.Proofs.YtljibgchickcpaaGreatDoor
open Go.RowKit Sc As Dn
def Dn.mkD (l:YLaw) (F:List FarmF) (y f v:Int) (g:FarmF):Dec:=⟨y,f,v,ofFarm (assess l F) f,farmRs l g⟩
def Dn.mk (l:YLaw) (F:List FarmF) (y f v:Int):Int × Dec :=
 if assErr l F≠0 then (assErr l F,Dec.none) else
 match F.find? fun g=>decide (g.farm=f) with
 | none=>(74,Dec.none)
 | some g=>if farmErr l g≠0 then (farmErr l g,Dec.none) else if chk (mkD l F y f v g)≠0 then (chk (mkD l F y f v g),Dec.none) else (0,mkD l F y f v g)
theorem Dn.mk_err {l:YLaw}{F:List FarmF}{y f v c:Int}(h:assErr l F=c)(hc:c≠0):mk l F y f v=(c,Dec.none):=by unfold mk;rw[h,if_pos hc]
theorem Dn.mk_no {l:YLaw}{F:List FarmF}{y f v:Int}(h:assErr l F=0)(hn:(F.find? fun g=>decide (g.farm=f))=none):mk l F y f v=(74,Dec.none):=by unfold mk;rw[h,if_neg (by simp),hn]
theorem Dn.mk_bad {l:YLaw}{F:List FarmF}{y f v c:Int}{g:FarmF}(h:assErr l F=0)(hn:(F.find? fun g=>decide (g.farm=f))=some g)(hg:farmErr l g=c)(hc:c≠0):mk l F y f v=(c,Dec.none):=by
 unfold mk;rw[h,if_neg (by simp),hn];simp only;rw[hg,if_pos hc]
theorem Dn.mk_chk {l:YLaw}{F:List FarmF}{y f v c:Int}{g:FarmF}(h:assErr l F=0)(hn:(F.find? fun g=>decide (g.farm=f))=some g)(hg:farmErr l g=0)(hk:chk (mkD l F y f v g)=c)(hc:c≠0):mk l F y f v=(c,Dec.none):=by
 unfold mk;rw[h,if_neg (by simp),hn];simp only;rw[hg,if_neg (by simp),hk,if_pos hc]
theorem Dn.mk_ok {l:YLaw}{F:List FarmF}{y f v:Int}{g:FarmF}(h:assErr l F=0)(hn:(F.find? fun g=>decide (g.farm=f))=some g)(hg:farmErr l g=0)(hk:chk (mkD l F y f v g)=0):mk l F y f v=(0,mkD l F y f v g):=by
 unfold mk;rw[h,if_neg (by simp),hn];simp only;rw[hg,if_neg (by simp),hk,if_neg (by simp)]
theorem As.assess_len64 {l:YLaw}{F:List FarmF}(h:assErr l F=0):(assess l F).length≤1000:=by
 have h1:chkF l F=0:=by
  by_cases e:chkF l F=0
  ·exact e
  ·unfold assErr at h
   rw[if_pos e]at h;exact absurd h e
 rcases assErr_cases (fOk h1) with⟨e,_⟩|⟨_,_,e⟩|⟨_,h64,_⟩
 ·omega
 ·omega
 ·rw[(assess_at h).1];omega
def MakeG (m:Int × Dec) (w:World) (e:Ending) (w' : World):Prop:=∃r,e = .returned (.tuple #[.agg (dCells r).toArray,I O m.1])∧DO w.heap.size w' r m.2∧Below w.heap.size w w'
theorem Blk.put5 {wr:World}{g:Nat}{z0 z1 z2 z3 z4:Value}{T:TypeId}(h:Blk wr g #[z0,z1,z2,z3,z4] T)(u0 u1 u2 u3 u4:Value):Blk (((((wr.setCell ⟨g,0,none⟩ u0).setCell ⟨g,1,none⟩ u1).setCell ⟨g,2,none⟩ u2).setCell ⟨g,3,none⟩ u3).setCell ⟨g,4,none⟩ u4) g #[u0,u1,u2,u3,u4] T :=
 ((((h.set 0 u0).set 1 u1).set 2 u2).set 3 u3).set 4 u4
theorem Below.put5 {w wr:World}{B g:Nat}(h:Below B w wr)(hg:B≤g)(u0 u1 u2 u3 u4:Value):Below B w (((((wr.setCell ⟨g,0,none⟩ u0).setCell ⟨g,1,none⟩ u1).setCell ⟨g,2,none⟩ u2).setCell ⟨g,3,none⟩ u3).setCell ⟨g,4,none⟩ u4):=(((((h.setCell (p:=⟨g,0,none⟩) hg u0).setCell (p:=⟨g,1,none⟩) hg u1).setCell (p:=⟨g,2,none⟩) hg u2).setCell (p:=⟨g,3,none⟩) hg u3).setCell (p:=⟨g,4,none⟩) hg u4)
theorem DO.far5 {B g:Nat}{W:World}{r:RD}{D:Dec}(h:DO B W r D)(hg:g<B)(u0 u1 u2 u3 u4:Value):DO B (((((W.setCell ⟨g,0,none⟩ u0).setCell ⟨g,1,none⟩ u1).setCell ⟨g,2,none⟩ u2).setCell ⟨g,3,none⟩ u3).setCell ⟨g,4,none⟩ u4) r D:=by
 have k:∀i,i≠g→(((((W.setCell ⟨g,0,none⟩ u0).setCell ⟨g,1,none⟩ u1).setCell ⟨g,2,none⟩ u2).setCell ⟨g,3,none⟩ u3).setCell ⟨g,4,none⟩ u4).heap[i]?=W.heap[i]?:=fun i hi=>by
  rw[setCell_far _ hi,setCell_far _ hi,setCell_far _ hi,setCell_far _ hi,setCell_far _ hi]
 exact⟨h.year,h.farm,h.ver,h.aw.blocks fun i _ hb _=>k i (by omega),h.rs.blocks fun i _ hb _=>k i (by omega),h.ap⟩
theorem refmake35_any {Q Q2:Nat→Prop}(d:Nat)(r:RY)(l:YLaw)(p:Option Addr)(F:List FarmF)(cap:Nat)(y f v:Int)(w:World)(h:YV Q w d r l)(hF:FsAt Q2 w p F)(hlo:∀f∈F,∀x∈f.lines, -9223372036854775808≤x.sch) :
  Calls Tryz.prog 27 #[.agg (yCells r).toArray,.slice p F.length cap,I O y,I O f,I O v] w (MakeG (mk l F y f v) w):=by
 have hlen:=hF.len;have HB:=mh (show Below w.heap.size w ((w.alloc (.cells #[.slice r.sp r.sn r.sc,.slice r.tp r.tn r.tc,I O r.due,I O r.last,I O r.mille,.slice r.gp r.gn r.gc,I O r.cap,I O r.env,I O r.unit,I O r.width] 58)).alloc (.cells #[I O 0,I O 0,I O 0,.slice none 0 0,.slice none 0 0] 26)) from balloc mle (balloc mle (brf w.heap.size w) _) _);have AS:=mh (refassess34_any d r l p F cap ((w.alloc (.cells #[.slice r.sp r.sn r.sc,.slice r.tp r.tn r.tc,I O r.due,I O r.last,I O r.mille,.slice r.gp r.gn r.gc,I O r.cap,I O r.env,I O r.unit,I O r.width] 58)).alloc (.cells #[I O 0,I O 0,I O 0,.slice none 0 0,.slice none 0 0] 26)) (h.below HB.out) (hF.below HB.out) hlo);have FR:=mh (fun (W W' : World) (hb:Below w.heap.size w W) (hb' : Below W.heap.size W W') (y:RF) (f:FarmF) (hv:FV Q2 W y f) (hf:f∈F)=>reffarm34_any d r l y f W' ((h.below hb).below hb') (hv.below hb') (hlo f hf));have HF:=mh hF;have BY:=mh (show Blk ((w.alloc (.cells #[.slice r.sp r.sn r.sc,.slice r.tp r.tn r.tc,I O r.due,I O r.last,I O r.mille,.slice r.gp r.gn r.gc,I O r.cap,I O r.env,I O r.unit,I O r.width] 58)).alloc (.cells #[I O 0,I O 0,I O 0,.slice none 0 0,.slice none 0 0] 26)) w.heap.size #[.slice r.sp r.sn r.sc,.slice r.tp r.tn r.tc,I O r.due,I O r.last,I O r.mille,.slice r.gp r.gn r.gc,I O r.cap,I O r.env,I O r.unit,I O r.width] 58 from(Blk.new w #[.slice r.sp r.sn r.sc,.slice r.tp r.tn r.tc,I O r.due,I O r.last,I O r.mille,.slice r.gp r.gn r.gc,I O r.cap,I O r.env,I O r.unit,I O r.width] 58).below ((brf _ _).alloc mle _))
 have BR:=mh (show Blk ((w.alloc (.cells #[.slice r.sp r.sn r.sc,.slice r.tp r.tn r.tc,I O r.due,I O r.last,I O r.mille,.slice r.gp r.gn r.gc,I O r.cap,I O r.env,I O r.unit,I O r.width] 58)).alloc (.cells #[I O 0,I O 0,I O 0,.slice none 0 0,.slice none 0 0] 26)) (w.heap.size+1) #[I O 0,I O 0,I O 0,.slice none 0 0,.slice none 0 0] 26 from by
  have e:(w.alloc (.cells #[.slice r.sp r.sn r.sc,.slice r.tp r.tn r.tc,I O r.due,I O r.last,I O r.mille,.slice r.gp r.gn r.gc,I O r.cap,I O r.env,I O r.unit,I O r.width] 58)).heap.size=w.heap.size+1:=by simp
  have:=Blk.new (w.alloc (.cells #[.slice r.sp r.sn r.sc,.slice r.tp r.tn r.tc,I O r.due,I O r.last,I O r.mille,.slice r.gp r.gn r.gc,I O r.cap,I O r.env,I O r.unit,I O r.width] 58)) #[I O 0,I O 0,I O 0,.slice none 0 0,.slice none 0 0] 26;rw[e]at this
  exact this)
 simp only[yCells]at AS FR ⊢;clear h hF hlo;unfold AsG at AS;obtain⟨c,ec⟩:∃c,assErr l F=c:=⟨_,rfl⟩;rw[ec]at AS;have EC:=mh ec;clear ec
 by_cases hc:c=0
 rotate_left
 ·have hne:(c != 0)=true:=by simpa using hc
  have EQ:=mh (mk_err (y:=y) (f:=f) (v:=v) EC.out hc);clear hc
  go_enter Tryz.func27,Tryz.ntmps27
  go_upto_region 3 with (first|(go_at_call 53;(with_reducible refine cmo AS.out ?_);rintro e w1 ⟨va,rfl, -,hb1⟩;have HB1:=mh (bstep mle HB.out hb1);have BR1:=mh (BR.out.below hb1);clear hb1)|fail)
  obtain⟨t0,t0f,t1,t1f,t2,t2f,t3,t3f,t4,t4f⟩:=BR1.out.f5
  go_wp2_with fail
  exact post5 (v := .tuple #[.agg #[I O 0,I O 0,I O 0,.slice none 0 0,.slice none 0 0],I O c]) BR1.out rfl fun wf PB PK=>⟨by obtain⟨c0,c1,c2,c3,c4⟩:=PB.c5;simp[results,Tryz.results27,go_sem,c0,c1,c2,c3,c4],⟨⟨0,0,0,none,0,0,none,0,0⟩,by rw[EQ.out];rfl,by rw[EQ.out];exact DO.nil _ _,HB1.out.trans (PK.below (Nat.le_succ _) HB1.out.size)⟩⟩
 subst hc;have NE0:((0:Int) != 0)=false:=by decide
 go_enter Tryz.func27,Tryz.ntmps27
 go_upto_region 5 with (first|(go_at_call 53;(with_reducible refine cmo AS.out ?_);rintro e w1 ⟨va,rfl,hoa,hb1⟩;obtain⟨pa,ca,rfl, -, -, -, -,hra⟩:=hoa.cut rfl;have HRA:=mh hra;have HB1:=mh (bstep mle HB.out hb1);have BR1:=mh (BR.out.below hb1);have BY1:=mh (BY.out.below hb1);have SZ1:=mh (show w.heap.size+2≤w1.heap.size from Nat.le_trans (by simp) hb1.size);clear hb1 hoa hra)|fail)
 clear AS HB BR BY
 go_loopw [14] (fun iv W=>∃k:Nat,k≤F.length∧iv=I O (k:Int)∧((F.take k).find? fun g=>decide (g.farm=f))=none∧Below w1.heap.size w1 W) (fun iv _=>F.length - (intOf iv).toNat)
 case atStart=>exact⟨0,Nat.zero_le _,rfl,rfl,brf _ _⟩
 case round =>
  obtain⟨wo,rfl⟩:∃wo:World,wo=wr:=⟨_,rfl⟩;obtain⟨k,hk,rfl,hno,hb⟩:=hrel;have HNO:=mh hno;have HBO:=mh hb;have HWO:=mh (show Below w.heap.size w wo from HB1.out.trans (hb.mono HB1.out.size));have hk0:(0:Int)≤(k:Int):=inn _
  by_cases hlt:k<F.length
  ·have hk1:(k:Int)<(F.length:Int):=by omega
   obtain⟨b,off,⟨fa,da,lp,ln,lc⟩,rfl,hbl,hfc,hv⟩:=(HF.out.below HB1.out).at hlt;have HFC:=mh (fun (W:World) (hb:Below w1.heap.size w1 W)=>hfc.below hb hbl);obtain⟨c0,c1,c2⟩:=HFC.out _ hb;simp only at c0 c1 c2;have efa:fa=F[k].farm:=hv.farm;have FRw:=mh (FR.out w1 wo.drew HB1.out (hb.trans ((brf _ _).drew.mono mle)) ⟨fa,da,lp,ln,lc⟩ F[k] hv (List.getElem_mem hlt));have ST:=mh (tsg hlt);have DR:=mh (List.drop_eq_getElem_cons hlt);obtain⟨g,eg⟩:∃g,F[k]=g:=⟨_,rfl⟩;rw[eg]at ST FRw efa DR;have EFA:=mh efa;clear hv eg hno hfc efa
   by_cases hg:fa=f
   rotate_left
   ·have hgb:(fa != f)=true:=by simpa using hg
    have NX:=mh (show((F.take (k+1)).find? fun g=>decide (g.farm=f))=none from by
     rw[ST.out,List.find?_append,HNO.out];have:decide (g.farm=f)=false:=dqf (by rw[← EFA.out];exact hg)
     simp[this])
    clear hg
    go_wp2_with fail
    go_roundw
    case rel=>exact⟨k+1,by omega,by go_num,NX.out,HBO.out⟩
    case measure=>simp[intOf];omega
   ·have hgb:(fa != f)=false:=by simpa using hg
    have FND:=mh (show(F.find? fun g=>decide (g.farm=f))=some g from by
     have e:F=F.take k++g::F.drop (k+1):=by rw[← DR.out,List.take_append_drop]
     have hd:decide (g.farm=f)=true:=dqt (by rw[← EFA.out];exact hg);have h2:((F.take k++g::F.drop (k+1)).find? fun g=>decide (g.farm=f))=some g:=by rw[List.find?_append,HNO.out];simp[hd]
     rw[← e]at h2
     exact h2)
    clear hg;have FRc:=mh FRw.out;simp only[fCells]at FRc;unfold FrG at FRc;have LD:=mh (show Below w1.heap.size w1 wo.drew from hb.trans ((brf _ _).drew.mono mle))
    have KS:=mh (fun (W:World) (hb:Below w1.heap.size w1 W)=>show W.cell? ⟨w.heap.size,0,none⟩=some (.slice r.sp r.sn r.sc)∧W.cell? ⟨w.heap.size,1,none⟩=some (.slice r.tp r.tn r.tc)∧W.cell? ⟨w.heap.size,2,none⟩=some (I O r.due)∧W.cell? ⟨w.heap.size,3,none⟩=some (I O r.last)∧W.cell? ⟨w.heap.size,4,none⟩=some (I O r.mille)∧W.cell? ⟨w.heap.size,5,none⟩=some (.slice r.gp r.gn r.gc)∧W.cell? ⟨w.heap.size,6,none⟩=some (I O r.cap)∧W.cell? ⟨w.heap.size,7,none⟩=some (I O r.env)∧W.cell? ⟨w.heap.size,8,none⟩=some (I O r.unit)∧W.cell? ⟨w.heap.size,9,none⟩=some (I O r.width)∧W.cell? ⟨b,off+k*3,none⟩=some (I O fa)∧W.cell? ⟨b,off+k*3+1,none⟩=some (I O da)∧W.cell? ⟨b,off+k*3+2,none⟩=some (.slice lp ln lc) from by
     have B2:=BY1.out.below hb;have g:=HFC.out W hb
     exact⟨B2.cell 0,B2.cell 1,B2.cell 2,B2.cell 3,B2.cell 4,B2.cell 5,B2.cell 6,B2.cell 7,B2.cell 8,B2.cell 9,g.c0,g.c1,g.c2⟩)
    have KD:=mh (KS.out _ LD.out);obtain⟨E,eE⟩:∃E,farmErr l g=E:=⟨_,rfl⟩;rw[eE]at FRc;have EE:=mh eE;clear eE FRw
    by_cases hE:E=0
    rotate_left
    ·have hne:(E != 0)=true:=by simpa using hE
     have EQ:=mh (mk_bad (y:=y) (v:=v) EC.out FND.out EE.out hE);clear hE
     go_wp2_with fail
     refine wp_region_held_drew (S:=fun w' => w'.cell? ⟨w.heap.size,0,none⟩=some (.slice r.sp r.sn r.sc)∧w'.cell? ⟨w.heap.size,1,none⟩=some (.slice r.tp r.tn r.tc)∧w'.cell? ⟨w.heap.size,2,none⟩=some (I O r.due)∧w'.cell? ⟨w.heap.size,3,none⟩=some (I O r.last)∧w'.cell? ⟨w.heap.size,4,none⟩=some (I O r.mille)∧w'.cell? ⟨w.heap.size,5,none⟩=some (.slice r.gp r.gn r.gc)∧w'.cell? ⟨w.heap.size,6,none⟩=some (I O r.cap)∧w'.cell? ⟨w.heap.size,7,none⟩=some (I O r.env)∧w'.cell? ⟨w.heap.size,8,none⟩=some (I O r.unit)∧w'.cell? ⟨w.heap.size,9,none⟩=some (I O r.width)∧w'.cell? ⟨b,off+k*3,none⟩=some (I O fa)∧w'.cell? ⟨b,off+k*3+1,none⟩=some (I O da)∧w'.cell? ⟨b,off+k*3+2,none⟩=some (.slice lp ln lc)) (by kernel_rfl) KD.out (fun hHeld=>?_)
     refine tkA 0 44 ?_
     simp only[Act.put,mnA,mnB,mnC];refine tkD 1 45 ?_;refine tkD 2 46 ?_;refine tkD 3 47 ?_;refine tkD 4 48 ?_;refine rdA 5 49 (fun K hK=>?_);go_simp;(with_reducible refine cmo FRc.out ?_);rintro e w3 ⟨va,vr,rfl,hoa,hor,hb3⟩;have HOR:=mh hor;have L3:=mh (LD.out.trans (hb3.mono LD.out.size));have K3:=mh (KS.out _ L3.out);clear hoa hor hb3
     go_wp2_with fail
     refine hK.out _ _ ?hSa0_5 (fun hHeld2=>?_)
     case hSa0_5=>exact K3.out
     clear hK K;refine tkD 6 43 ?_;refine tkD 7 50 ?_;refine tkD 8 51 ?_;refine tkD 9 52 ?_;refine tkD 10 15 ?_;refine tkD 11 16 ?_;refine tkA 12 17 ?_;refine wpAnyH_done (by kernel_rfl) ?_ _;have HB3:=mh (HB1.out.trans (L3.out.mono HB1.out.size));have BR3:=mh (BR1.out.below L3.out)
     go_upto_region 10 with fail
     obtain⟨t0,t0f,t1,t1f,t2,t2f,t3,t3f,t4,t4f⟩:=BR3.out.f5
     go_wp2_with fail
     exact post5 (v := .tuple #[.agg #[I O 0,I O 0,I O 0,.slice none 0 0,.slice none 0 0],I O E]) BR3.out rfl fun wf PB PK=>⟨by obtain⟨c0,c1,c2,c3,c4⟩:=PB.c5;simp[results,Tryz.results27,go_sem,c0,c1,c2,c3,c4],⟨⟨0,0,0,none,0,0,none,0,0⟩,by rw[EQ.out];rfl,by rw[EQ.out];exact DO.nil _ _,HB3.out.trans (PK.below (Nat.le_succ _) HB3.out.size)⟩⟩
    ·subst hE
     go_wp2_with fail
     refine wp_region_held_drew (S:=fun w' => w'.cell? ⟨w.heap.size,0,none⟩=some (.slice r.sp r.sn r.sc)∧w'.cell? ⟨w.heap.size,1,none⟩=some (.slice r.tp r.tn r.tc)∧w'.cell? ⟨w.heap.size,2,none⟩=some (I O r.due)∧w'.cell? ⟨w.heap.size,3,none⟩=some (I O r.last)∧w'.cell? ⟨w.heap.size,4,none⟩=some (I O r.mille)∧w'.cell? ⟨w.heap.size,5,none⟩=some (.slice r.gp r.gn r.gc)∧w'.cell? ⟨w.heap.size,6,none⟩=some (I O r.cap)∧w'.cell? ⟨w.heap.size,7,none⟩=some (I O r.env)∧w'.cell? ⟨w.heap.size,8,none⟩=some (I O r.unit)∧w'.cell? ⟨w.heap.size,9,none⟩=some (I O r.width)∧w'.cell? ⟨b,off+k*3,none⟩=some (I O fa)∧w'.cell? ⟨b,off+k*3+1,none⟩=some (I O da)∧w'.cell? ⟨b,off+k*3+2,none⟩=some (.slice lp ln lc)) (by kernel_rfl) KD.out (fun hHeld=>?_)
     refine tkA 0 44 ?_
     simp only[Act.put,mnA,mnB,mnC];refine tkD 1 45 ?_;refine tkD 2 46 ?_;refine tkD 3 47 ?_;refine tkD 4 48 ?_;refine rdA 5 49 (fun K hK=>?_);go_simp;(with_reducible refine cmo FRc.out ?_);rintro e w3 ⟨va,vr,rfl,hoa,hor,hb3⟩;have HOR:=mh hor;have L3:=mh (LD.out.trans (hb3.mono LD.out.size));have K3:=mh (KS.out _ L3.out);clear hoa hor hb3
     go_wp2_with fail
     refine hK.out _ _ ?hSb0_5 (fun hHeld2=>?_)
     case hSb0_5=>exact K3.out
     clear hK K;refine tkD 6 43 ?_;refine tkD 7 50 ?_;refine tkD 8 51 ?_;refine tkD 9 52 ?_;refine tkD 10 15 ?_;refine tkD 11 16 ?_;refine tkA 12 17 ?_;refine wpAnyH_done (by kernel_rfl) ?_ _;obtain⟨pr,cr,rfl, -,hfr, -, -, -⟩:=HOR.out.cut rfl;have HR2:=mh (HOR.out.mono (show w.heap.size+2≤_ from by have h2:=SZ1.out;have h3:=hb.size;simp;omega));have OF:=mh (refofo34_any pa (assess l F) ca f w3 (HRA.out.below L3.out) (assess_len64 EC.out));have HB3:=mh (HB1.out.trans (L3.out.mono HB1.out.size));have BR3:=mh (BR1.out.below L3.out);have EAO:=mh (show(mkD l F y f v g).aw=ofFarm (assess l F) f from rfl);have ERS:=mh (show(mkD l F y f v g).rs=farmRs l g from rfl);have EMK:=mh (show ∃D,mkD l F y f v g=D∧D.year=y∧D.farm=f∧D.ver=v from⟨_,rfl,rfl,rfl,rfl⟩);obtain⟨D,eD,eD1,eD2,eD3⟩:=EMK.out;obtain⟨AO,eAO⟩:∃A,ofFarm (assess l F) f=A:=⟨_,rfl⟩;obtain⟨RS,eRS⟩:∃R,farmRs l g=R:=⟨_,rfl⟩;rw[eD,eAO]at EAO;rw[eD,eRS]at ERS;rw[eAO]at OF;rw[eRS]at HR2 ⊢;have RLT:=mh (show ∀g,(Value.slice pr RS.length cr).ownBlock=some g→g<w3.heap.size from fun g hg=>(HR2.out.lt hg).2)
     have DVW:=mh (fun (W:World) (po:Option Addr) (co:Nat) (h1:OwnR SA W 78 w3.heap.size (.slice po AO.length co) AO) (h2:OwnR SRn W 76 (w.heap.size+2) (.slice pr RS.length cr) RS)=>show DO (w.heap.size+2) W ⟨y,f,v,po,AO.length,co,pr,RS.length,cr⟩ D from
      ⟨eD1.symm,eD2.symm,eD3.symm,(by show OwnR SA W _ _ (.slice po AO.length co) D.aw;rw[EAO.out];exact h1.mono (by have h2:=SZ1.out;have h3:=L3.out.size;omega)),(by show OwnR SRn W _ _ (.slice pr RS.length cr) D.rs;rw[ERS.out];exact h2),fun g h3 h4=>by have h5:=(h1.lt h3).1;have h6:=RLT.out g h4;omega⟩)
     have CK:=mh (fun (W:World) (r:RD) (h:DV W r D)=>refcheck35_any r D W h);have MOK:=mh (fun h=>mk_ok (y:=y) (v:=v) EC.out FND.out EE.out h);have MCH:=mh (fun c h h2=>mk_chk (y:=y) (v:=v) (c:=c) EC.out FND.out EE.out h h2);rw[eD]at MOK MCH;clear eD eD1 eD2 eD3 eAO eRS EMK hfr FRc KS KD K3;unfold RowO at OF
     go_upto_region 12 with (first|(go_at_call 55;(with_reducible refine cmo OF.out ?_);rintro e w5 ⟨vo,rfl,hoo,hb5⟩;obtain⟨po,co,rfl, -, -, -, -, -⟩:=hoo.cut rfl;have DV5:=mh (DVW.out w5 po co hoo (HR2.out.below hb5));have HB5:=mh (HB3.out.trans (hb5.mono HB3.out.size));have BR5:=mh (BR3.out.below hb5);clear hoo hb5)|fail)
     have BA:=mh ((brf w5.heap.size w5).alloc mle (.cells #[I O y,I O f,I O v,.slice po AO.length co,.slice pr RS.length cr] 26));have DV6:=mh (DV5.out.below BA.out);have HB6:=mh (HB5.out.trans (BA.out.mono HB5.out.size));have BR6:=mh (BR5.out.below BA.out);have BD6:=mh (Blk.new w5 #[I O y,I O f,I O v,.slice po AO.length co,.slice pr RS.length cr] 26);obtain⟨db,edb⟩:∃n,w5.heap.size=n:=⟨_,rfl⟩;rw[edb]at BD6 ⊢;generalize w5.alloc (.cells #[I O y,I O f,I O v,.slice po AO.length co,.slice pr RS.length cr] 26)=w6 at *;clear BA DV5 HB5 BR5 edb;have CKC:=mh (CK.out w6 _ DV6.out.dv);simp only[dCells]at CKC;have x0:=BD6.out.cell 0;have x1:=BD6.out.cell 1;have x2:=BD6.out.cell 2;have x3:=BD6.out.cell 3;have x4:=BD6.out.cell 4;obtain⟨ck,eck⟩:∃z,chk D=z:=⟨_,rfl⟩;rw[eck]at CKC MOK MCH;clear eck CK
     by_cases hck:ck=0
     rotate_left
     ·have EQ:=mh (MCH.out ck rfl hck)
      have hne:(ck != 0)=true:=by simpa using hck
      clear hck
      go_upto_region 14 with (first|(go_at_call 12;(with_reducible refine cmo CKC.out ?_);rintro e w8 ⟨rfl,hb8⟩;have HB8:=mh (HB6.out.trans (hb8.mono HB6.out.size));have BR8:=mh (BR6.out.below hb8);clear hb8)|fail)
      obtain⟨t0,t0f,t1,t1f,t2,t2f,t3,t3f,t4,t4f⟩:=BR8.out.f5
      go_wp2_with fail
      exact post5 (v := .tuple #[.agg #[I O 0,I O 0,I O 0,.slice none 0 0,.slice none 0 0],I O ck]) BR8.out rfl fun wf PB PK=>⟨by obtain⟨c0,c1,c2,c3,c4⟩:=PB.c5;simp[results,Tryz.results27,go_sem,c0,c1,c2,c3,c4],⟨⟨0,0,0,none,0,0,none,0,0⟩,by rw[EQ.out];rfl,by rw[EQ.out];exact DO.nil _ _,HB8.out.trans (PK.below (Nat.le_succ _) HB8.out.size)⟩⟩
     ·subst hck
      have EQ:=mh (MOK.out rfl);clear x0 x1 x2 x3 x4;have x0:=BD6.out.cell 0;have x1:=BD6.out.cell 1;have x2:=BD6.out.cell 2;have x3:=BD6.out.cell 3;have x4:=BD6.out.cell 4
      go_upto_region 15 with (first|(go_at_call 12;(with_reducible refine cmo CKC.out ?_);rintro e w8 ⟨rfl,hb8⟩;have HB8:=mh (HB6.out.trans (hb8.mono HB6.out.size));have BR8:=mh (BR6.out.below hb8);have BD8:=mh (BD6.out.below hb8);have DV8:=mh (DV6.out.below hb8);have OLD:=mh HB6.out.size;have LOW8:=mh hb8.size;clear hb8)|fail)
      clear x0 x1 x2 x3 x4;have x0:=BD8.out.cell 0;have x1:=BD8.out.cell 1;have x2:=BD8.out.cell 2;have x3:=BD8.out.cell 3;have x4:=BD8.out.cell 4;obtain⟨t0,t0f,t1,t1f,t2,t2f,t3,t3f,t4,t4f⟩:=BR8.out.f5
      go_wp2_with fail
      exact post5 (v := .tuple #[.agg #[I O y,I O f,I O v,.slice po AO.length co,.slice pr RS.length cr],I O 0]) BR8.out rfl fun wf PB PK=>⟨by obtain⟨c0,c1,c2,c3,c4⟩:=PB.c5;simp[results,Tryz.results27,go_sem,c0,c1,c2,c3,c4],⟨⟨y,f,v,po,AO.length,co,pr,RS.length,cr⟩,by rw[EQ.out];rfl,by rw[EQ.out];exact(DV8.out.but PK (by omega)).mono (by omega),HB8.out.trans (PK.below (Nat.le_succ _) HB8.out.size)⟩⟩
  ·obtain rfl:k=F.length:=by omega
   rw[List.take_length]at HNO;have EQ:=mh (mk_no (y:=y) (v:=v) EC.out HNO.out);have BR3:=mh (BR1.out.below hb);clear hno hlt hb;obtain⟨t0,t0f,t1,t1f,t2,t2f,t3,t3f,t4,t4f⟩:=BR3.out.f5
   go_wp2_with fail
   exact post5 (v := .tuple #[.agg #[I O 0,I O 0,I O 0,.slice none 0 0,.slice none 0 0],I O 74]) BR3.out rfl fun wf PB PK=>⟨by obtain⟨c0,c1,c2,c3,c4⟩:=PB.c5;simp[results,Tryz.results27,go_sem,c0,c1,c2,c3,c4],⟨⟨0,0,0,none,0,0,none,0,0⟩,by rw[EQ.out];rfl,by rw[EQ.out];exact DO.nil _ _,HWO.out.trans (PK.below (Nat.le_succ _) HWO.out.size)⟩⟩
structure RdS (w:World) (t:Nat) (s:PS):Prop where
 v:∃r:RD,Blk w t #[I O r.year,I O r.farm,I O r.ver,.slice r.ap r.an r.ac,.slice r.rp r.rn r.rc,I O s.part,I O s.tot] 90∧DO (t+1) w r s.d
theorem RdS.lt {w:World}{t:Nat}{s:PS}(h:RdS w t s):t<w.heap.size:=by obtain⟨r,h1,h2⟩:=h.v;exact h1.lt
theorem RdS.below {w w' : World}{t:Nat}{s:PS}(h:RdS w t s)(hb:Below w.heap.size w w'):RdS w' t s:=by
 obtain⟨r,h1,h2⟩:=h.v;exact⟨r,h1.below hb,h2.below hb⟩
theorem RdS.drew {w:World}{t:Nat}{s:PS}(h:RdS w t s):RdS w.drew t s:=h.below (brf _ _).drew
def StepG (t:Nat) (o:Option PS) (w:World) (e:Ending) (w' : World):Prop:=e = .returned (.bool o.isSome)∧(∀s', o=some s' → RdS w' t s')∧Below t w w'
theorem StepG.no {t:Nat}{o:Option PS}{w w' : World}(ho:o=none)(hb:Below t w w'):StepG t o w (.returned (.bool false)) w' :=by
 subst ho;exact⟨rfl,(fun s' h=>by cases h),hb⟩
theorem StepG.yes {t:Nat}{o:Option PS}{s' : PS}{w w' : World}(ho:o=some s')(hr:RdS w' t s')(hb:Below t w w'):StepG t o w (.returned (.bool true)) w' :=by
 subst ho;exact⟨rfl,(fun s2 h=>by cases h;exact hr),hb⟩
theorem OwnR.nums {w:World}{T:TypeId}{B n:Nat}{v:Value}{L:List Int}(h:OwnR SI w T B v L)(hn:L.length=n+1) :
  ∃b off c,v = .slice (some ⟨b,off,none⟩) (n+1) c∧B≤b∧b<w.heap.size∧∀j (hj:j<L.length),w.cell? ⟨b,off+j,none⟩=some (I O L[j]):=by
 obtain⟨p,c,rfl,h1,h2,h3,h4,h5⟩:=h.cut hn;obtain⟨b,off,rfl,hb,hc⟩:=h5.at (k:=0) (by omega);obtain⟨-, -,a3, -⟩:=h2 _ rfl;refine⟨b,off,c,rfl,a3,hb,fun j hj=>?_⟩;obtain⟨b2,off2,e2, -,hc2⟩:=h5.at hj
 cases e2
 have:=hc2 0 (I O L[j]) rfl;rw[show SI.k=1 from rfl,Nat.mul_one,Nat.add_zero]at this;exact this
theorem RdS.putD {w:World}{t:Nat}{s:PS}(h:RdS w t s)(y f v:Int) :
  RdS ((((w.setCell ⟨t,0,none⟩ (I O y)).setCell ⟨t,1,none⟩ (I O f)).setCell ⟨t,2,none⟩ (I O v)).setCell ⟨t,5,none⟩ (I O 1)) t ⟨1,{ s.d with year:=y,farm:=f,ver:=v },s.tot⟩:=by
 obtain⟨r,h1,h2⟩:=h.v;refine⟨{ r with year:=y,farm:=f,ver:=v },(((h1.set 0 _).set 1 _).set 2 _).set 5 _,?_⟩;have k:∀i,i≠t→((((w.setCell ⟨t,0,none⟩ (I O y)).setCell ⟨t,1,none⟩ (I O f)).setCell ⟨t,2,none⟩ (I O v)).setCell ⟨t,5,none⟩ (I O 1)).heap[i]?=w.heap[i]?:=fun i hi=>by
  rw[setCell_far _ hi,setCell_far _ hi,setCell_far _ hi,setCell_far _ hi]
 exact⟨rfl,rfl,rfl,h2.aw.blocks fun i _ hb _=>k i (by omega),h2.rs.blocks fun i _ hb _=>k i (by omega),h2.ap⟩
theorem RdS.putT {w:World}{t:Nat}{s:PS}(h:RdS w t s)(y:Int) :
  RdS ((w.setCell ⟨t,6,none⟩ (I O y)).setCell ⟨t,5,none⟩ (I O 3)) t ⟨3,s.d,y⟩:=by
 obtain⟨r,h1,h2⟩:=h.v;refine⟨r,(h1.set 6 _).set 5 _,?_⟩;have k:∀i,i≠t→((w.setCell ⟨t,6,none⟩ (I O y)).setCell ⟨t,5,none⟩ (I O 3)).heap[i]?=w.heap[i]?:=fun i hi=>by
  rw[setCell_far _ hi,setCell_far _ hi]
 exact⟨h2.year,h2.farm,h2.ver,h2.aw.blocks fun i _ hb _=>k i (by omega),h2.rs.blocks fun i _ hb _=>k i (by omega),h2.ap⟩
theorem tl_len (ws:List ByteArray):(tl ws).length=ws.length:=by unfold tl;rw[List.length_map]
theorem nvs_eq {l:List (List UInt8)}{i:Nat}(h:i<l.length):nvs l i=nv l[i]:=by unfold nvs;rw[List.getD_eq_getElem?_getD,List.getElem?_eq_getElem h];rfl
theorem NumsG.good {l:List (List UInt8)}{n:Nat}{w w' : World}{v:Value}(hn:numsB l (n+1)=true)(h:numsB l (n+1)=true→OwnR SI w' 3 w.heap.size v (l.map nv)) :
  ∃b off c,v = .slice (some ⟨b,off,none⟩) (n+1) c∧w.heap.size≤b∧b<w'.heap.size∧∀j,j<n+1→w'.cell? ⟨b,off+j,none⟩=some (I O (nvs l j)):=by
 have hl:=(numsB_all hn).1;obtain⟨b,off,c,h1,h2,h3,h4⟩:=(h hn).nums (n:=n) (by rw[List.length_map,hl]);refine⟨b,off,c,h1,h2,h3,fun j hj=>?_⟩;rw[h4 j (by rw[List.length_map];omega),List.getElem_map,nvs_eq (by omega)]
theorem rddecision_any (t:Nat)(s:PS)(q:Option Addr)(ws:List ByteArray)(c:Nat)(w:World)(hR:RdS w t s)(h:Recs SB w q ws)(hE:Env w)(hz:∀x∈ws,x.size≤16384)(hl:ws.length≤20000) :
  Calls Tryz.prog 70 #[.pointer (some ⟨t,0,none⟩),.slice q ws.length c] w (StepG t (stepD s (tl ws)) w):=by
 have NU:=mh (show Calls Tryz.prog 92 #[.slice q ws.length c,I O 3] w (NumsG (tl ws) 3 w) from numbers35_any q ws c 3 w h hE hz hl);have HR:=mh hR;have htl:=hR.lt;unfold NumsG at NU;clear h hE hz
 cases hb:numsB (tl ws) 3
 ·have HN:=mh (show stepD s (tl ws)=none from by unfold stepD;rw[hb];rfl)
  rw[hb]at NU;clear hb hR
  go_enter Tryz.func70,Tryz.ntmps70
  go_wp2_with (go_at_call 92;(with_reducible refine cmo NU.out ?_);rintro e w1 ⟨v1,rfl, -,hb1⟩;have HB1:=mh (hb1.mono (Nat.le_of_lt htl));clear hb1)
  go_ret
  exact StepG.no HN.out HB1.out
 obtain⟨⟨pt,d,tot⟩,es⟩:∃x,s=x:=⟨_,rfl⟩;subst es;have HG:=mh (fun (v:Value) (w1:World) (h:true=true→OwnR SI w1 3 w.heap.size v ((tl ws).map nv))=>NumsG.good hb (fun _=>h rfl))
 by_cases hp:pt=0
 rotate_left
 ·have HN:=mh (show stepD ⟨pt,d,tot⟩ (tl ws)=none from by unfold stepD;rw[hb];simp[hp])
  rw[hb]at NU;have hpb:(pt != 0)=true:=bne_iff_ne.2 hp;clear hb hp hR
  go_enter Tryz.func70,Tryz.ntmps70
  go_wp2_with (go_at_call 92;(with_reducible refine cmo NU.out ?_);rintro e w1 ⟨v1,rfl, -,hb1⟩;obtain⟨r,hB1, -⟩:=(HR.out.below hb1).v;have c5:=hB1.cell 5;simp at c5;have hlt1:=hB1.lt;have HB1:=mh (hb1.mono (Nat.le_of_lt htl));clear hb1 hB1)
  go_ret
  exact StepG.no HN.out HB1.out
 subst hp;have HN:=mh (show stepD ⟨0,d,tot⟩ (tl ws)=some ⟨1,{ d with year:=nvs (tl ws) 0,farm:=nvs (tl ws) 1,ver:=nvs (tl ws) 2 },tot⟩ from by unfold stepD;rw[hb];rfl);rw[hb]at NU;clear hb hR
 go_enter Tryz.func70,Tryz.ntmps70
 go_wp2_with (go_at_call 92;(with_reducible refine cmo NU.out ?_);rintro e w1 ⟨v1,rfl,ho1,hb1⟩;obtain⟨b,off,c1,rfl,hwb,hbl,hc⟩:=HG.out v1 w1 ho1;have hc0:=hc 0 (by omega);have hc1:=hc 1 (by omega);have hc2:=hc 2 (by omega);rw[Nat.add_zero]at hc0;have HR1:=mh (HR.out.below hb1);obtain⟨r,hB1, -⟩:=HR1.out.v;have k0:=hB1.cell 0;have k1:=hB1.cell 1;have k2:=hB1.cell 2;have k5:=hB1.cell 5;simp at k0 k1 k2 k5;have f0:=hB1.fr 0;have f1:=hB1.fr 1;have f2:=hB1.fr 2;have f5:=hB1.fr 5;have hlt1:=hB1.lt;have HB1:=mh (hb1.mono (Nat.le_of_lt htl));have hne:b≠t:=Nat.ne_of_gt (nll htl hwb);obtain⟨x0,ex0⟩:∃x,nvs (tl ws) 0=x:=⟨_,rfl⟩;obtain⟨x1,ex1⟩:∃x,nvs (tl ws) 1=x:=⟨_,rfl⟩;obtain⟨x2,ex2⟩:∃x,nvs (tl ws) 2=x:=⟨_,rfl⟩;rw[ex0]at hc0;rw[ex1]at hc1;rw[ex2]at hc2;have EX:=mh (And.intro ex0 (And.intro ex1 ex2));clear ex0 ex1 ex2 hb1 hB1 hc ho1)
 go_region
 go_wp2
 go_ret
 rw[EX.out.1,EX.out.2.1,EX.out.2.2]at HN;exact StepG.yes HN.out (HR1.out.putD x0 x1 x2).drew ((((HB1.out.setCell (p:=⟨t,0,none⟩) (Nat.le_refl t) _).setCell (p:=⟨t,1,none⟩) (Nat.le_refl t) _).setCell (p:=⟨t,2,none⟩) (Nat.le_refl t) _).setCell (p:=⟨t,5,none⟩) (Nat.le_refl t) _).drew
theorem rdsum_any (t:Nat)(s:PS)(q:Option Addr)(ws:List ByteArray)(c:Nat)(w:World)(hR:RdS w t s)(h:Recs SB w q ws)(hE:Env w)(hz:∀x∈ws,x.size≤16384)(hl:ws.length≤20000) :
  Calls Tryz.prog 73 #[.pointer (some ⟨t,0,none⟩),.slice q ws.length c] w (StepG t (Dn.stepT s (tl ws)) w):=by
 have NU:=mh (show Calls Tryz.prog 92 #[.slice q ws.length c,I O 1] w (NumsG (tl ws) 1 w) from numbers35_any q ws c 1 w h hE hz hl);have HR:=mh hR;have htl:=hR.lt;unfold NumsG at NU;clear h hE hz
 cases hb:numsB (tl ws) 1
 ·have HN:=mh (show Dn.stepT s (tl ws)=none from by unfold Dn.stepT;rw[hb];rfl)
  rw[hb]at NU;clear hb hR
  go_enter Tryz.func73,Tryz.ntmps73
  go_wp2_with (go_at_call 92;(with_reducible refine cmo NU.out ?_);rintro e w1 ⟨v1,rfl, -,hb1⟩;have HB1:=mh (hb1.mono (Nat.le_of_lt htl));clear hb1)
  go_ret
  exact StepG.no HN.out HB1.out
 obtain⟨⟨pt,d,tot⟩,es⟩:∃x,s=x:=⟨_,rfl⟩;subst es;have HG:=mh (fun (v:Value) (w1:World) (h:true=true→OwnR SI w1 3 w.heap.size v ((tl ws).map nv))=>NumsG.good hb (fun _=>h rfl))
 by_cases hp:pt=1∨pt=2
 rotate_left
 ·have HN:=mh (show Dn.stepT ⟨pt,d,tot⟩ (tl ws)=none from by unfold Dn.stepT midB;rw[hb];rw[dqf (fun e=>hp (.inl e)),dqf (fun e=>hp (.inr e))];rfl)
  rw[hb]at NU;have hp1:(pt != 1)=true:=bne_iff_ne.2 (fun e=>hp (.inl e));have hp2:(pt != 2)=true:=bne_iff_ne.2 (fun e=>hp (.inr e));clear hb hp hR
  go_enter Tryz.func73,Tryz.ntmps73
  go_wp2_with (go_at_call 92;(with_reducible refine cmo NU.out ?_);rintro e w1 ⟨v1,rfl, -,hb1⟩;obtain⟨r,hB1, -⟩:=(HR.out.below hb1).v;have c5:=hB1.cell 5;simp at c5;have hlt1:=hB1.lt;have HB1:=mh (hb1.mono (Nat.le_of_lt htl));clear hb1 hB1)
  go_ret
  exact StepG.no HN.out HB1.out
 have HN:=mh (show Dn.stepT ⟨pt,d,tot⟩ (tl ws)=some ⟨3,d,nvs (tl ws) 0⟩ from by unfold Dn.stepT midB;rw[hb];rcases hp with rfl|rfl<;>rfl);rw[hb]at NU;clear hb hR
 rcases hp with rfl|rfl
 all_goals
  go_enter Tryz.func73,Tryz.ntmps73
  go_wp2_with (go_at_call 92;(with_reducible refine cmo NU.out ?_);rintro e w1 ⟨v1,rfl,ho1,hb1⟩;obtain⟨b,off,c1,rfl,hwb,hbl,hc⟩:=HG.out v1 w1 ho1;have hc0:=hc 0 (by omega);rw[Nat.add_zero]at hc0;have HR1:=mh (HR.out.below hb1);obtain⟨r,hB1, -⟩:=HR1.out.v;have k5:=hB1.cell 5;have k6:=hB1.cell 6;simp at k5 k6;have f5:=hB1.fr 5;have f6:=hB1.fr 6;have hlt1:=hB1.lt;have HB1:=mh (hb1.mono (Nat.le_of_lt htl));have hne:b≠t:=Nat.ne_of_gt (nll htl hwb);obtain⟨x0,ex0⟩:∃x,nvs (tl ws) 0=x:=⟨_,rfl⟩;rw[ex0]at hc0;have EX:=mh ex0;clear ex0 hb1 hB1 hc ho1)
  go_ret
  rw[EX.out]at HN;exact StepG.yes HN.out (HR1.out.putT x0) ((HB1.out.setCell (p:=⟨t,6,none⟩) (Nat.le_refl t) _).setCell (p:=⟨t,5,none⟩) (Nat.le_refl t) _)
end Go.Proofs.YtljibgchickcpaaGreatDoor
