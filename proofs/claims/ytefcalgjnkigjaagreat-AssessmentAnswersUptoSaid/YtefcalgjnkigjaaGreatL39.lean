/- Packed. -/
import Derived.Test.YtefcalgjnkigjaaGreatL38
set_option maxRecDepth 100000
set_option maxHeartbeats 8000000
open Go.Value renaming int → I
open Go.IntKind renaming i64 → O
namespace Go.Proofs.YtefcalgjnkigjaaGreat
open Go.RowKit Sc As
theorem nY {Q Q2:Nat→Prop}(d:Nat)(r:RY)(l:YLaw)(p:Option Addr)(F:List FarmF)(cap:Nat)(w:World)(h:YV Q w d r l)(hF:yF Q2 w p F)(hlo:∀f∈F,∀x∈f.lines, -9223372036854775808≤x.sch) :
  Calls Tryz.prog 18 #[.agg (yCells r).toArray,.slice p F.length cap] w (AsG l F w):=by
 have hlen:=hF.len;have HB:=mh (qK mle (brf w.heap.size w) (.cells #[.slice r.sp r.sn r.sc,.slice r.tp r.tn r.tc,I O r.due,I O r.last,I O r.mille,.slice r.gp r.gn r.gc,I O r.cap,I O r.env,I O r.unit,I O r.width] 29));have FA:=mh (uA d r l p F cap (w.alloc (.cells #[.slice r.sp r.sn r.sc,.slice r.tp r.tn r.tc,I O r.due,I O r.last,I O r.mille,.slice r.gp r.gn r.gc,I O r.cap,I O r.env,I O r.unit,I O r.width] 29)) (h.below HB.out) h.sc (hF.below HB.out) hlo);have FR:=mh (fun (W:World) (hb:Below w.heap.size w W) (y:RF) (f:FarmF) (W' : World) (hb' : Below W.heap.size W W') (hv:FV Q2 W y f) (hf:f∈F)=>wC d r l y f W' ((h.below hb).below hb') (hv.below hb') (hlo f hf));have HF:=mh hF;have BY:=mh (Blk.new w #[.slice r.sp r.sn r.sc,.slice r.tp r.tn r.tc,I O r.due,I O r.last,I O r.mille,.slice r.gp r.gn r.gc,I O r.cap,I O r.env,I O r.unit,I O r.width] 29);have HRE:=mh (And.intro h.env h.unit);simp only[yCells]at FA FR ⊢;clear h hF hlo;obtain⟨c,ec⟩:∃c,xG l F=c:=⟨_,rfl⟩;rw[ec]at FA;have EC:=mh ec;clear ec
 by_cases hc:c=0
 rotate_left
 ·have hne:(c != 0)=true:=by simpa using hc
  have ER:=mh (show jR l F=c from by unfold jR;rw[EC.out,if_pos hc]);have HNE:=mh hc;clear hc
  go_enter Tryz.func18,Tryz.ntmps18
  go_wp2_with (go_at_call 16;(with_reducible refine cmo FA.out ?_);rintro e w1 ⟨rfl,hb1⟩;have HB1:=mh (qZ mle HB.out hb1);clear hb1)
  go_ret2
  exact AsG.err ER.out HNE.out HB1.out
 subst hc;have FO:=mh (fOk EC.out);have hF10:=FO.len;have NE0:((0:Int) != 0)=false:=by decide
 go_enter Tryz.func18,Tryz.ntmps18
 go_wp2_with (go_at_call 16;(with_reducible refine cmo FA.out ?_);rintro e w1 ⟨rfl,hb1⟩;have HB1:=mh (qZ mle HB.out hb1);have BY1:=mh (BY.below hb1);clear hb1)
 go_loopw [7,8] (fun out i W=>∃k:Nat,k≤F.length∧i=I O k∧jL l (F.take k)=0∧qX SA W 91 w1.heap.size out (jY l (F.take k))∧Below w1.heap.size w1 W) (fun _ i _=>F.length - (intOf i).toNat)
 case atStart=>exact⟨0,Nat.zero_le _,rfl,rfl,qX.nil _ _ _,brf _ _⟩
 case round =>
  obtain⟨wo,rfl⟩:∃wo:World,wo=wr:=⟨_,rfl⟩;obtain⟨k,hk,rfl,her,hO,hb⟩:=hrel;have HO:=mh hO;have HER:=mh her;have HBO:=mh hb;have HWO:=mh (show Below w.heap.size w wo from HB1.trans (hb.mono HB1.size));have hk0:(0:Int)≤(k:Int):=inn _;clear hO her
  by_cases hlt:k<F.length
  ·have hk1:(k:Int)<(F.length:Int):=by omega
   have BYO:=mh (Blk.below BY1.out (hb.mono mle));obtain⟨b,off,⟨fa,da,lp,ln,lc⟩,rfl,hbl,hfc,hv⟩:=(HF.below HB1.out).at hlt;have HFC:=mh (fun (W:World) (hb:Below w1.heap.size w1 W)=>hfc.below hb hbl);have ST:=mh (tsg hlt)
   have HLE:=mh (show(jY l (F.take k)).length≤160∧(jV l F[k]).length≤16 from by
    have h1:=uU l (F.take k);have h2:=dC l F[k];have h3:=FO.law.len;have h4:(F.take k).length≤10:=by rw[List.length_take];omega
    have h5:(F.take k).length*l.sch.length≤10*16:=Nat.mul_le_mul h4 h3
    omega)
   have BAD:=mh (fun h=>allErr_bad (l:=l) hlt HER.out h);have FRw:=mh (FR.out wo HWO.out ⟨fa,da,lp,ln,lc⟩ F[k] wo.drew ((brf _ _).drew) (hv.below hb) (List.getElem_mem hlt));obtain⟨f,ef⟩:∃f,F[k]=f:=⟨_,rfl⟩;rw[ef]at hv ST HLE BAD FRw;have hba:=(brf wo.heap.size wo).drew;have FRc:=mh FRw.out;simp only[fCells]at FRc
   have KS:=mh (fun (W:World) (hb:Below w1.heap.size w1 W)=>show W.cell? ⟨w.heap.size,0,none⟩=some (.slice r.sp r.sn r.sc)∧W.cell? ⟨w.heap.size,1,none⟩=some (.slice r.tp r.tn r.tc)∧W.cell? ⟨w.heap.size,2,none⟩=some (I O r.due)∧W.cell? ⟨w.heap.size,3,none⟩=some (I O r.last)∧W.cell? ⟨w.heap.size,4,none⟩=some (I O r.mille)∧W.cell? ⟨w.heap.size,5,none⟩=some (.slice r.gp r.gn r.gc)∧W.cell? ⟨w.heap.size,6,none⟩=some (I O r.cap)∧W.cell? ⟨w.heap.size,7,none⟩=some (I O r.env)∧W.cell? ⟨w.heap.size,8,none⟩=some (I O r.unit)∧W.cell? ⟨w.heap.size,9,none⟩=some (I O r.width)∧W.cell? ⟨b,off+k*3,none⟩=some (I O fa)∧W.cell? ⟨b,off+k*3+1,none⟩=some (I O da)∧W.cell? ⟨b,off+k*3+2,none⟩=some (.slice lp ln lc) from by
    have B2:=BY1.below hb;have g:=HFC.out W hb
    exact⟨B2.cell 0,B2.cell 1,B2.cell 2,B2.cell 3,B2.cell 4,B2.cell 5,B2.cell 6,B2.cell 7,B2.cell 8,B2.cell 9,g.c0,g.c1,g.c2⟩)
   have HO2:=mh (HO.below hba);have HB2:=mh (hb.trans (hba.mono hb.size));have KD:=mh (KS.out _ HB2.out);unfold FrG at FRc;obtain⟨E,eE⟩:∃E,farmErr l f=E:=⟨_,rfl⟩;rw[eE]at FRc BAD;have EE:=mh eE;clear hv ef hba eE hbl hb hfc FRw BYO
   by_cases hE:E=0
   ·subst hE
    go_wp2_with fail
    refine wp_region_held_drew (S:=fun w' => w'.cell? ⟨w.heap.size,0,none⟩=some (.slice r.sp r.sn r.sc)∧w'.cell? ⟨w.heap.size,1,none⟩=some (.slice r.tp r.tn r.tc)∧w'.cell? ⟨w.heap.size,2,none⟩=some (I O r.due)∧w'.cell? ⟨w.heap.size,3,none⟩=some (I O r.last)∧w'.cell? ⟨w.heap.size,4,none⟩=some (I O r.mille)∧w'.cell? ⟨w.heap.size,5,none⟩=some (.slice r.gp r.gn r.gc)∧w'.cell? ⟨w.heap.size,6,none⟩=some (I O r.cap)∧w'.cell? ⟨w.heap.size,7,none⟩=some (I O r.env)∧w'.cell? ⟨w.heap.size,8,none⟩=some (I O r.unit)∧w'.cell? ⟨w.heap.size,9,none⟩=some (I O r.width)∧w'.cell? ⟨b,off+k*3,none⟩=some (I O fa)∧w'.cell? ⟨b,off+k*3+1,none⟩=some (I O da)∧w'.cell? ⟨b,off+k*3+2,none⟩=some (.slice lp ln lc)) (by kernel_rfl) KD.out (fun hHeld=>?_)
    refine tkA 0 28 ?_
    simp only[Act.put,mnA,mnB,mnC];refine tkD 1 29 ?_;refine tkD 2 30 ?_;refine tkD 3 31 ?_;refine tkD 4 32 ?_;refine rdA 5 33 (fun K hK=>?_);go_simp;(with_reducible refine cmo FRc.out ?_);rintro e w3 ⟨va,vr,rfl,hoa,hor,hb3⟩;obtain⟨pa,ca,rfl,hpn, -, -, -,hra⟩:=hoa.cut rfl;have HRA:=mh hra;have HPN:=mh (fun e=>(hpn e).1);have HO3:=mh (HO2.below hb3);have HB3:=mh (HB2.trans (hb3.mono HB2.size));have K3:=mh (KS.out _ HB3.out);clear hoa hor hb3 hpn hra
    go_wp2_with fail
    refine hK.out _ _ ?hSa0_5 (fun hHeld2=>?_)
    case hSa0_5=>exact K3.out
    clear hK K;refine tkD 6 27 ?_;refine tkD 7 34 ?_;refine tkD 8 35 ?_;refine tkD 9 36 ?_;refine tkD 10 9 ?_;refine tkD 11 10 ?_;refine tkA 12 11 ?_;refine wpAnyH_done (by kernel_rfl) ?_ _
    go_wp2_with (first|(at_builtin;(refine qX.appendAll gN rfl (.tmp 40) (.tmp 41) rfl w1.heap.size _ (jY l (F.take k)) (jV l f) pa ca (jV l f).length rfl HO3.out HRA.out HPN.out rfl rfl HB3.size (by have:=HLE.out;omega) (by decide) ?_);intro v5 w5 hO5 hap5;have HO5:=mh hO5;have HB5:=mh (HB3.trans hap5.below);clear hO5 hap5)|fail)
    go_roundw
    case rel=>exact⟨k+1,by omega,by go_num,by rw[ST.out,allErr_snoc _ HER.out,EE.out],by rw[ST.out,allAw_snoc];exact HO5.out,HB5.out⟩
    case measure=>simp[intOf];omega
   ·have hne:(E != 0)=true:=by simpa using hE
    have HNE:=mh hE;clear hE;have ER:=mh (show jR l F=E from by unfold jR;rw[EC.out,if_neg (by simp),BAD.out HNE.out,if_pos HNE.out])
    go_wp2_with fail
    refine wp_region_held_drew (S:=fun w' => w'.cell? ⟨w.heap.size,0,none⟩=some (.slice r.sp r.sn r.sc)∧w'.cell? ⟨w.heap.size,1,none⟩=some (.slice r.tp r.tn r.tc)∧w'.cell? ⟨w.heap.size,2,none⟩=some (I O r.due)∧w'.cell? ⟨w.heap.size,3,none⟩=some (I O r.last)∧w'.cell? ⟨w.heap.size,4,none⟩=some (I O r.mille)∧w'.cell? ⟨w.heap.size,5,none⟩=some (.slice r.gp r.gn r.gc)∧w'.cell? ⟨w.heap.size,6,none⟩=some (I O r.cap)∧w'.cell? ⟨w.heap.size,7,none⟩=some (I O r.env)∧w'.cell? ⟨w.heap.size,8,none⟩=some (I O r.unit)∧w'.cell? ⟨w.heap.size,9,none⟩=some (I O r.width)∧w'.cell? ⟨b,off+k*3,none⟩=some (I O fa)∧w'.cell? ⟨b,off+k*3+1,none⟩=some (I O da)∧w'.cell? ⟨b,off+k*3+2,none⟩=some (.slice lp ln lc)) (by kernel_rfl) KD.out (fun hHeld=>?_)
    refine tkA 0 28 ?_
    simp only[Act.put,mnA,mnB,mnC];refine tkD 1 29 ?_;refine tkD 2 30 ?_;refine tkD 3 31 ?_;refine tkD 4 32 ?_;refine rdA 5 33 (fun K hK=>?_);go_simp;(with_reducible refine cmo FRc.out ?_);rintro e w3 ⟨va,vr,rfl,hoa,hor,hb3⟩;obtain⟨pa,ca,rfl,hpn, -, -, -,hra⟩:=hoa.cut rfl;have HRA:=mh hra;have HPN:=mh (fun e=>(hpn e).1);have HO3:=mh (HO2.below hb3);have HB3:=mh (HB2.trans (hb3.mono HB2.size));have K3:=mh (KS.out _ HB3.out);clear hoa hor hb3 hpn hra
    go_wp2_with fail
    refine hK.out _ _ ?hSb0_5 (fun hHeld2=>?_)
    case hSb0_5=>exact K3.out
    clear hK K;refine tkD 6 27 ?_;refine tkD 7 34 ?_;refine tkD 8 35 ?_;refine tkD 9 36 ?_;refine tkD 10 9 ?_;refine tkD 11 10 ?_;refine tkA 12 11 ?_;refine wpAnyH_done (by kernel_rfl) ?_ _
    go_wp2_with fail
    go_ret2
    exact AsG.err ER.out HNE.out (HB1.trans (HB3.mono HB1.size))
  ·obtain rfl:k=F.length:=by omega
   rw[List.take_length]at HER HO;obtain⟨po,co,rfl,hpo,hpb, -, -,hro⟩:=HO.cut rfl;have HRO:=mh hro
   have HLE:=mh (show(jY l F).length≤160 from by
    have h1:=uU l F;have h3:=FO.law.len;have h5:F.length*l.sch.length≤10*16:=Nat.mul_le_mul hF10 h3
    omega)
   have HPB:=mh (fun x e=>(hpb x e).2.2.2);clear hro hpo hpb hk hlt hk0
   by_cases h64:64<(jY l F).length
   ·have ER:=mh (show jR l F=1 from by unfold jR;rw[EC.out,if_neg (by simp),HER.out,if_neg (by simp),if_pos h64])
    have h64i:(64:Int)<((jY l F).length:Int):=by omega
    clear h64
    go_wp2
    go_ret2
    exact AsG.err ER.out (by decide) HWO.out
   ·have G:=fT FO.out (show(jY l F).length≤64 by omega)
    have GE:=En.err_of G;have GL:=G.keeps.len;have ER:=mh (show jR l F=0 from by unfold jR;rw[EC.out,if_neg (by simp),HER.out,if_neg (by simp),if_neg h64];exact GE);have EA:=mh (show yP l F=vY (jY l F) (En.scale l.env l.unit (qP (jY l F))) from by unfold yP;rw[if_neg (by rw[ER.out];simp)]);have h64i:¬(64:Int)<((jY l F).length:Int):=by omega
    obtain⟨A,eA⟩:∃A,jY l F=A:=⟨_,rfl⟩;rw[eA]at HO HRO HLE h64i EA GE GL ⊢;have CL:(qP A).length=A.length:=by unfold qP;simp
    obtain⟨C,eC⟩:∃C,En.scale l.env l.unit (qP A)=C:=⟨_,rfl⟩;rw[eC]at EA GL;obtain⟨n,en⟩:∃n,A.length=n:=⟨_,rfl⟩;have HNA:=mh en;have HNC:=mh (show C.length=n from by rw[GL,CL,en]);have CLN:=mh (show(qP A).length=n from by rw[CL,en]);have hn64:n≤64:=by omega
    have SCL:=mh (fun (W:World) (q:Option Addr) (cq:Nat) (hq:qR W q (qP A))=>show Calls Tryz.prog 61 #[I O r.env,I O r.unit,.slice q n cq] W (zK W C 0) from by
     have:=rB r.env r.unit q (qP A) cq W hq;rw[HRE.out.1,HRE.out.2,eC,GE,CL,en]at this;rw[HRE.out.1,HRE.out.2]
     exact this)
    have HOD:=mh (HO.drew);have HBD:=mh (show Below w1.heap.size w1 wo.drew from HBO.trans ((brf _ _).drew.mono mle))
    have CPC:=mh (show Calls Tryz.prog 62 #[.slice po n co] wo.drew (vNA (qP A) wo.drew) from by
     have:=bV po A co wo.drew (HRO.below (brf _ _).drew) (by omega);rw[en]at this
     exact this)
    unfold vNA at CPC
    have KS:=mh (fun (W:World) (hb:Below w1.heap.size w1 W)=>show W.cell? ⟨w.heap.size,7,none⟩=some (I O r.env)∧W.cell? ⟨w.heap.size,8,none⟩=some (I O r.unit) from by
     have B2:=BY1.below hb
     exact⟨B2.cell 7,B2.cell 8⟩)
    have KD:=mh (KS.out _ HBD.out);rw[en]at h64i HO HOD ⊢;clear h64 G GE GL eA eC CL en
    go_wp2_with fail
    refine wp_region_held_drew (S:=fun w' => w'.cell? ⟨w.heap.size,7,none⟩=some (I O r.env)∧w'.cell? ⟨w.heap.size,8,none⟩=some (I O r.unit)) (by kernel_rfl) KD.out (fun hHeld=>?_)
    refine tkA 0 47 ?_
    simp only[Act.put,mnA,mnB,mnC];refine tkD 1 48 ?_;refine tkD 2 49 ?_;refine tkD 3 50 ?_;refine tkD 4 51 ?_;refine rdA 5 52 (fun K hK=>?_);go_simp;(with_reducible refine cmo CPC.out ?_);rintro e w5 ⟨pc,cc,rfl,hrc,hb5⟩;have SC:=mh (SCL.out w5 pc cc hrc);have HO5:=mh (HOD.below hb5);have HB5:=mh (HBD.trans (hb5.mono HBD.size));have K5:=mh (KS.out _ HB5.out);clear hrc hb5
    go_wp2_with fail
    refine hK.out _ _ ?hSc0_5 (fun hHeld2=>?_)
    case hSc0_5=>exact K5.out
    clear hK K;refine rdA 6 53 (fun K hK=>?_);go_simp;rw[CLN.out];(with_reducible refine cmo SC.out ?_);rintro e w6 ⟨pF,cF,rfl,hI,hb6,hnw⟩;have CPS:=mh (show DuS w5.heap.size w1.heap.size w1 w6 (.slice po n co) A pF C 0 from⟨by rw[dueN_zero];exact HO5.below hb6,HB5.trans (hb6.mono HB5.size),hI,fun g hg=>(HO5.lt hg).2,hnw⟩);have K6:=mh (KS.out _ (HB5.trans (hb6.mono HB5.size)));clear hI hb6 hnw
    go_wp2_with fail
    refine hK.out _ _ ?hSc0_6 (fun hHeld2=>?_)
    case hSc0_6=>exact K6.out
    clear hK K;refine tkD 7 46 ?_;refine tkD 8 54 ?_;refine tkD 9 55 ?_;refine tkD 10 12 ?_;refine tkA 11 13 ?_;refine wpAnyH_done (by kernel_rfl) ?_ _
    go_wp2_with fail
    rw[HNC.out];clear K5 K6 KD KS SC
    go_loopw [14] (fun i W=>∃j:Nat,j≤n∧i=I O j∧DuS w5.heap.size w1.heap.size w1 W (.slice po n co) A pF C j) (fun i _=>n - (intOf i).toNat)
    case atStart=>exact⟨0,Nat.zero_le _,rfl,CPS.out⟩
    case round =>
     obtain⟨wq,rfl⟩:∃wq:World,wq=wr:=⟨_,rfl⟩;obtain⟨j,hj,rfl,hp⟩:=hrel;have HP:=mh hp;clear hp CPS;have hj0:(0:Int)≤(j:Int):=inn _
     by_cases hlt:j<n
     ·have hj1:(j:Int)<(n:Int):=by omega
      obtain⟨b,off,x,rfl,hb,hcx,hx⟩:=HP.ints.get (show j<C.length by rw[HNC.out];exact hlt);obtain⟨g,c,u,ev,h8,f8,hset⟩:=HP.set HNA.out hlt
      cases ev
      rw[hx.out]at hset;have HSET:=mh hset;clear hset hx hb
      go_wp2
      go_roundw
      case rel=>exact⟨j+1,by omega,by go_num,HSET.out⟩
      case measure=>simp[intOf];omega
     ·obtain rfl:j=n:=by omega
      clear hlt
      go_wp2
      go_ret2
      exact⟨_,by rw[ER.out];rfl,by rw[EA.out,← dueN_all,HNA.out];exact HP.oa.mono HB1.size,HB1.trans (HP.low.mono HB1.size)⟩
end Go.Proofs.YtefcalgjnkigjaaGreat
