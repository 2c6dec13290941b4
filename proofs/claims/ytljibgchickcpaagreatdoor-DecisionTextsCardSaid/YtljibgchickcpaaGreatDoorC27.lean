/- Packed. -/
import Derived.Test.YtljibgchickcpaaGreatDoorC26
set_option maxRecDepth 100000
set_option maxHeartbeats 8000000
open Go.Value renaming int → I
open Go.IntKind renaming i64 → O
namespace Go.Proofs.YtljibgchickcpaaGreatDoor
open Go.RowKit Sc As Dn
theorem check35_any (r:RD)(D:Dec)(w:World)(h:DV w r D):Calls Tryz.prog 11 #[.agg (dCells r).toArray] w (IntG (chk D) w):=by
 have HV:=mh h;have e1:=h.year;have e2:=h.farm;have e3:=h.ver;have e4:=h.an;have e5:=h.rn;have hlen:=h.rs.len;have hlen2:=h.aw.len;clear h;obtain⟨yy,ff,vv,ap,an,ac,rp,rn,rc⟩:=r;simp only at e1 e2 e3 e4 e5;subst e1 e2 e3 e4 e5;have HB0:=mh (show Below w.heap.size w (w.alloc (.cells #[I O D.year,I O D.farm,I O D.ver,.slice ap D.aw.length ac,.slice rp D.rs.length rc] 26)) from balloc mle (brf _ _) _);have BD0:=mh (Blk.new w #[I O D.year,I O D.farm,I O D.ver,.slice ap D.aw.length ac,.slice rp D.rs.length rc] 26);have RS:=mh (reasons35_any ⟨D.year,D.farm,D.ver,ap,D.aw.length,ac,rp,D.rs.length,rc⟩ D (w.alloc (.cells #[I O D.year,I O D.farm,I O D.ver,.slice ap D.aw.length ac,.slice rp D.rs.length rc] 26)) (HV.out.below HB0.out));have N1:=mh (named35_any D.year D.farm D.ver (w.alloc (.cells #[I O D.year,I O D.farm,I O D.ver,.slice ap D.aw.length ac,.slice rp D.rs.length rc] 26)));simp only[dCells]at RS ⊢
 cases en:named D.year D.farm D.ver
 ·rw[en]at N1
  have ER:=mh (chk_named en);clear en
  go_enter Tryz.func11,Tryz.ntmps11
  go_wp2_with (first|(go_at_call 30;(with_reducible refine cmo N1.out ?_);rintro e w1 ⟨rfl,rfl⟩)|(go_at_call 31;(with_reducible refine cmo RS.out ?_);rintro e w1 ⟨rfl,hb1⟩)|fail)
  go_ret
  exact⟨by rw[ER.out];rfl,HB0.out⟩
 rw[en]at N1;have EN:=mh en;clear en
 by_cases h16:D.aw.length≤16
 rotate_left
 ·have ER:=mh (chk_16 h16)
  have h16i:(16:Int)<(D.aw.length:Int):=by omega
  clear h16
  go_enter Tryz.func11,Tryz.ntmps11
  go_wp2_with (first|(go_at_call 30;(with_reducible refine cmo N1.out ?_);rintro e w1 ⟨rfl,rfl⟩)|(go_at_call 31;(with_reducible refine cmo RS.out ?_);rintro e w1 ⟨rfl,hb1⟩)|fail)
  go_ret
  exact⟨by rw[ER.out];rfl,HB0.out⟩
 have h16i:¬(16:Int)<(D.aw.length:Int):=by omega
 have H16:=mh h16
 cases er:rsB D
 ·rw[er]at RS
  have ER:=mh (chk_rsB er);clear er h16
  go_enter Tryz.func11,Tryz.ntmps11
  go_wp2_with (first|(go_at_call 30;(with_reducible refine cmo N1.out ?_);rintro e w1 ⟨rfl,rfl⟩)|(go_at_call 31;(with_reducible refine cmo RS.out ?_);rintro e w1 ⟨rfl,hb1⟩)|fail)
  go_ret
  exact⟨by rw[ER.out];rfl,bstep mle HB0.out hb1⟩
 rw[er]at RS;have ERS:=mh er;clear er h16
 go_enter Tryz.func11,Tryz.ntmps11
 go_upto_region 3 with (first|(go_at_call 30;(with_reducible refine cmo N1.out ?_);rintro e w1 ⟨rfl,rfl⟩)|(go_at_call 31;(with_reducible refine cmo RS.out ?_);rintro e w1 ⟨rfl,hb1⟩)|fail)
 have HB1:=mh (bstep mle HB0.out hb1);have BD1:=mh (BD0.out.below hb1);clear hb1 RS N1 HB0 BD0;have HB0:=mh HB1.out;have BD0:=mh BD1.out;clear HB1 BD1;generalize w1=w0 at *;have q3:=BD0.out.cell 3
 go_upto_region 4 with fail
 clear q3
 go_loopw [27] (fun iv W=>∃k:Nat,k≤D.aw.length∧iv=I O (k:Int)∧awsB D k=true∧Below w0.heap.size w0 W) (fun iv _=>D.aw.length - (intOf iv).toNat)
 case atStart=>exact⟨0,Nat.zero_le _,rfl,rfl,brf _ _⟩
 case round =>
  obtain⟨wo,rfl⟩:∃wo:World,wo=wr:=⟨_,rfl⟩;obtain⟨k,hk,rfl,hall,hb⟩:=hrel;have hall:=mh hall;have HB:=mh hb;have hk0:(0:Int)≤(k:Int):=inn _
  by_cases hlt:k<D.aw.length
  ·have hk1:(k:Int)<(D.aw.length:Int):=by omega
   have NOT:=mh (fun (h:awAt D k=false)=>chk_aw hlt h);obtain⟨b,off,e,hbl,cc⟩:=SA_at (HV.out.aw.below HB0.out) hlt;simp only at e;subst e;have AT0:=mh (awAt_some hlt)
   have PRV:=mh (fun (j:Nat) (e:j<D.aw.length)=>show(b<w0.heap.size∧w0.cell? ⟨b,off+j*9+1,none⟩=some (I O D.aw[j].scheme)) from by
    obtain⟨b', off', e', hbl', kk⟩:=SA_at (HV.out.aw.below HB0.out) e
    cases e'
    exact⟨hbl', kk.c1⟩)
   obtain⟨d0,d1,d2,d3,d4,d5,d6,d7,d8⟩:=cc;obtain⟨⟨x0,x1,x2,x3,x4,x5,x6,x7,x8⟩,ex⟩:∃x,D.aw[k]=x:=⟨_,rfl⟩;rw[ex]at d0 d1 d2 d3 d4 d5 d6 d7 d8 AT0;simp only at d0 d1 d2 d3 d4 d5 d6 d7 d8;have d0:=(hb.cell (p:=⟨b,off+k*9,none⟩) hbl).trans d0;have d1:=(hb.cell (p:=⟨b,off+k*9+1,none⟩) hbl).trans d1;have d2:=(hb.cell (p:=⟨b,off+k*9+2,none⟩) hbl).trans d2;have d3:=(hb.cell (p:=⟨b,off+k*9+3,none⟩) hbl).trans d3;have d4:=(hb.cell (p:=⟨b,off+k*9+4,none⟩) hbl).trans d4;have d5:=(hb.cell (p:=⟨b,off+k*9+5,none⟩) hbl).trans d5;have d6:=(hb.cell (p:=⟨b,off+k*9+6,none⟩) hbl).trans d6;have d7:=(hb.cell (p:=⟨b,off+k*9+7,none⟩) hbl).trans d7;have d8:=(hb.cell (p:=⟨b,off+k*9+8,none⟩) hbl).trans d8;have R1:=mh (Blk.new wo #[I O x0,I O x1,I O x2,I O x3,I O x4,I O x5,I O x6,I O x7,I O x8] 78);have L1:=mh (show Below w0.heap.size w0 (wo.alloc (.cells #[I O x0,I O x1,I O x2,I O x3,I O x4,I O x5,I O x6,I O x7,I O x8] 78)) from hb.trans (((brf _ _).alloc mle _).mono hb.size));have HRB:=mh (show w0.heap.size≤wo.heap.size from hb.size)
   go_upto_region 6 with fail
   obtain⟨rb,erb⟩:∃n,wo.heap.size=n:=⟨_,rfl⟩;rw[erb]at R1 HRB ⊢;generalize wo.alloc (.cells #[I O x0,I O x1,I O x2,I O x3,I O x4,I O x5,I O x6,I O x7,I O x8] 78)=w1 at *;clear d0 d1 d2 d3 d4 d5 d6 d7 d8 ex hb HB erb;have L2:=mh (show Below w0.heap.size w0 w1.drew from L1.out.trans ((brf w0.heap.size w1).drew));have R2:=mh (show Blk w1.drew rb #[I O x0,I O x1,I O x2,I O x3,I O x4,I O x5,I O x6,I O x7,I O x8] 78 from R1.out);have AWC:=mh (fun (W:World)=>award35_any ⟨x0,x1,x2,x3,x4,x5,x6,x7,x8⟩ D.farm W);simp only at AWC
   have KS:=mh (fun (W:World) (hb:Below w0.heap.size w0 W) (hd:Below w1.drew.heap.size w1.drew W)=>show W.cell? ⟨rb,0,none⟩=some (I O x0)∧W.cell? ⟨rb,1,none⟩=some (I O x1)∧W.cell? ⟨rb,2,none⟩=some (I O x2)∧W.cell? ⟨rb,3,none⟩=some (I O x3)∧W.cell? ⟨rb,4,none⟩=some (I O x4)∧W.cell? ⟨rb,5,none⟩=some (I O x5)∧W.cell? ⟨rb,6,none⟩=some (I O x6)∧W.cell? ⟨rb,7,none⟩=some (I O x7)∧W.cell? ⟨rb,8,none⟩=some (I O x8)∧W.cell? ⟨w.heap.size,1,none⟩=some (I O D.farm)∧W.cell? ⟨w.heap.size,3,none⟩=some (.slice (some ⟨b,off,none⟩) D.aw.length ac) from by
    have g:=R2.out.below hd;have g2:=BD0.out.below hb
    exact⟨g.cell 0,g.cell 1,g.cell 2,g.cell 3,g.cell 4,g.cell 5,g.cell 6,g.cell 7,g.cell 8,g2.cell 1,g2.cell 3⟩)
   have KD:=mh (KS.out _ L2.out (brf _ _))
   cases e1:awB ⟨x0,x1,x2,x3,x4,x5,x6,x7,x8⟩ D.farm
   ·rw[e1]at AWC AT0
    have AT:=mh (show awAt D k=false from by rw[AT0.out]<;>simp);clear e1;refine wp_region_held_drew (S:=fun w' => w'.cell? ⟨rb,0,none⟩=some (I O x0)∧w'.cell? ⟨rb,1,none⟩=some (I O x1)∧w'.cell? ⟨rb,2,none⟩=some (I O x2)∧w'.cell? ⟨rb,3,none⟩=some (I O x3)∧w'.cell? ⟨rb,4,none⟩=some (I O x4)∧w'.cell? ⟨rb,5,none⟩=some (I O x5)∧w'.cell? ⟨rb,6,none⟩=some (I O x6)∧w'.cell? ⟨rb,7,none⟩=some (I O x7)∧w'.cell? ⟨rb,8,none⟩=some (I O x8)∧w'.cell? ⟨w.heap.size,1,none⟩=some (I O D.farm)∧w'.cell? ⟨w.heap.size,3,none⟩=some (.slice (some ⟨b,off,none⟩) D.aw.length ac)) (by kernel_rfl) KD.out (fun hHeld=>?_);refine tkD 0 32 ?_;refine tkD 1 33 ?_;refine tkD 2 34 ?_;refine rdA 3 35 (fun K hK=>?_);go_simp;(with_reducible refine cmo (AWC.out _) ?_);rintro e w6 ⟨rfl,hb6⟩;have L6:=mh (L2.out.trans (hb6.mono L2.out.size));have K6:=mh (KS.out _ L6.out hb6);clear hb6
    go_wp2_with fail
    refine hK.out _ _ ?hSa0_3 (fun hHeld2=>?_)
    case hSa0_3=>exact K6.out
    clear hK K;refine tkD 4 36 ?_;refine tkD 5 37 ?_;refine tkB 6 38 ?_;refine tkB 7 39 ?_;refine tkB 8 40 ?_;refine tkB 9 41 ?_;refine tkB 10 42 ?_;refine tkB 11 43 ?_;refine tkB 12 44 ?_;refine tkB 13 45 ?_;refine tkB 14 46 ?_;refine tkB 15 47 ?_;refine tkB 16 48 ?_;refine tkB 17 49 ?_;refine tkB 18 50 ?_;refine tkE 19 51 ?_;refine tkA 20 52 ?_;refine wpAnyH_done (by kernel_rfl) ?_ _;have NO:=mh (NOT.out (by rw[AT.out]<;>simp))
    go_wp2_with fail
    go_ret
    exact⟨by rw[NO.out];rfl,HB0.out.trans (L6.out.mono HB0.out.size)⟩
   ·rw[e1]at AWC AT0
    clear e1
    by_cases hz:k=0
    ·have AT:=mh (show awAt D k=true from by have e:=AT0.out;rw[hz]at e ⊢;exact e)
     have hkz:¬(0:Int)<(k:Int):=by omega
     have hkd:decide (0<k)=false:=dqf (by omega);have hkn:¬0<k:=by omega
     clear hz;refine wp_region_held_drew (S:=fun w' => w'.cell? ⟨rb,0,none⟩=some (I O x0)∧w'.cell? ⟨rb,1,none⟩=some (I O x1)∧w'.cell? ⟨rb,2,none⟩=some (I O x2)∧w'.cell? ⟨rb,3,none⟩=some (I O x3)∧w'.cell? ⟨rb,4,none⟩=some (I O x4)∧w'.cell? ⟨rb,5,none⟩=some (I O x5)∧w'.cell? ⟨rb,6,none⟩=some (I O x6)∧w'.cell? ⟨rb,7,none⟩=some (I O x7)∧w'.cell? ⟨rb,8,none⟩=some (I O x8)∧w'.cell? ⟨w.heap.size,1,none⟩=some (I O D.farm)∧w'.cell? ⟨w.heap.size,3,none⟩=some (.slice (some ⟨b,off,none⟩) D.aw.length ac)) (by kernel_rfl) KD.out (fun hHeld=>?_);refine tkD 0 32 ?_;refine tkD 1 33 ?_;refine tkD 2 34 ?_;refine rdA 3 35 (fun K hK=>?_);go_simp;(with_reducible refine cmo (AWC.out _) ?_);rintro e w6 ⟨rfl,hb6⟩;have L6:=mh (L2.out.trans (hb6.mono L2.out.size));have K6:=mh (KS.out _ L6.out hb6);clear hb6
     go_wp2_with fail
     refine hK.out _ _ ?hSb0_3 (fun hHeld2=>?_)
     case hSb0_3=>exact K6.out
     clear hK K;refine tkD 4 36 ?_;refine tkD 5 37 ?_;refine tkD 6 38 ?_;refine tkD 7 39 ?_;refine tkD 8 40 ?_;refine tkB 9 41 ?_;refine tkB 10 42 ?_;refine tkB 11 43 ?_;refine tkB 12 44 ?_;refine tkB 13 45 ?_;refine tkB 14 46 ?_;refine tkB 15 47 ?_;refine tkB 16 48 ?_;refine tkB 17 49 ?_;refine tkE 18 50 ?_;refine tkD 19 51 ?_;refine tkA 20 52 ?_;refine wpAnyH_done (by kernel_rfl) ?_ _;have YES:=mh (show awsB D (k+1)=true from by rw[awsB_succ,hall.out,AT.out]<;>rfl)
     go_wp2_with fail
     go_roundw
     case rel=>exact⟨k+1,by omega,by go_num,YES.out,L6.out⟩
     case measure=>simp[intOf];omega
    ·obtain⟨j,ej⟩:∃j,k=j+1:=⟨k - 1,by omega⟩
     have hkz:(0:Int)<(k:Int):=by omega
     have hkd:decide (0<k)=true:=dqt (by omega);have hkn:0<k:=by omega
     have hj:j<D.aw.length:=by omega
     obtain⟨hbl,p1⟩:=PRV.out j hj
     have AT:=mh (show awAt D k=decide (D.aw[j].scheme<x1) from by
      have e:=prevA_succ (D:=D) (a:=⟨x0,x1,x2,x3,x4,x5,x6,x7,x8⟩) hj;rw[← ej]at e
      rw[AT0.out,e];simp)
     obtain⟨y1,ey⟩:∃y,D.aw[j].scheme=y:=⟨_,rfl⟩;rw[ey]at p1 AT
     have KS:=mh (fun (W:World) (hb:Below w0.heap.size w0 W) (hd:Below w1.drew.heap.size w1.drew W)=>show W.cell? ⟨rb,0,none⟩=some (I O x0)∧W.cell? ⟨rb,1,none⟩=some (I O x1)∧W.cell? ⟨rb,2,none⟩=some (I O x2)∧W.cell? ⟨rb,3,none⟩=some (I O x3)∧W.cell? ⟨rb,4,none⟩=some (I O x4)∧W.cell? ⟨rb,5,none⟩=some (I O x5)∧W.cell? ⟨rb,6,none⟩=some (I O x6)∧W.cell? ⟨rb,7,none⟩=some (I O x7)∧W.cell? ⟨rb,8,none⟩=some (I O x8)∧W.cell? ⟨w.heap.size,1,none⟩=some (I O D.farm)∧W.cell? ⟨w.heap.size,3,none⟩=some (.slice (some ⟨b,off,none⟩) D.aw.length ac)∧W.cell? ⟨b,off+j*9+1,none⟩=some (I O y1) from by
      have g:=R2.out.below hd;have g2:=BD0.out.below hb
      exact⟨g.cell 0,g.cell 1,g.cell 2,g.cell 3,g.cell 4,g.cell 5,g.cell 6,g.cell 7,g.cell 8,g2.cell 1,g2.cell 3,(hb.cell (p:=⟨b,off+j*9+1,none⟩) hbl).trans p1⟩)
     have KD:=mh (KS.out _ L2.out (brf _ _));clear p1 ey PRV;have s1:IntKind.i64.wrap ((k:Int) - 1)=(j:Int):=by rw[IntKind.wrap_i64];omega
     have j0:(0:Int)≤(j:Int):=inn _;have j1:(j:Int)<(D.aw.length:Int):=by omega
     clear hz ej
     by_cases hy:y1<x1
     ·have AT:=mh (show awAt D k=true from by rw[AT.out];exact dqt hy)
      have hyd:decide (x1≤y1)=false:=dqf (by omega);have hyn:¬x1≤y1:=by omega
      clear hy;refine wp_region_held_drew (S:=fun w' => w'.cell? ⟨rb,0,none⟩=some (I O x0)∧w'.cell? ⟨rb,1,none⟩=some (I O x1)∧w'.cell? ⟨rb,2,none⟩=some (I O x2)∧w'.cell? ⟨rb,3,none⟩=some (I O x3)∧w'.cell? ⟨rb,4,none⟩=some (I O x4)∧w'.cell? ⟨rb,5,none⟩=some (I O x5)∧w'.cell? ⟨rb,6,none⟩=some (I O x6)∧w'.cell? ⟨rb,7,none⟩=some (I O x7)∧w'.cell? ⟨rb,8,none⟩=some (I O x8)∧w'.cell? ⟨w.heap.size,1,none⟩=some (I O D.farm)∧w'.cell? ⟨w.heap.size,3,none⟩=some (.slice (some ⟨b,off,none⟩) D.aw.length ac)∧w'.cell? ⟨b,off+j*9+1,none⟩=some (I O y1)) (by kernel_rfl) KD.out (fun hHeld=>?_);refine tkD 0 32 ?_;refine tkD 1 33 ?_;refine tkD 2 34 ?_;refine rdA 3 35 (fun K hK=>?_);go_simp;(with_reducible refine cmo (AWC.out _) ?_);rintro e w6 ⟨rfl,hb6⟩;have L6:=mh (L2.out.trans (hb6.mono L2.out.size));have K6:=mh (KS.out _ L6.out hb6);clear hb6
      go_wp2_with fail
      refine hK.out _ _ ?hSc0_3 (fun hHeld2=>?_)
      case hSc0_3=>exact K6.out
      clear hK K;refine tkD 4 36 ?_;refine tkD 5 37 ?_;refine tkD 6 38 ?_;refine tkD 7 39 ?_;refine tkD 8 40 ?_;refine tkD 9 41 ?_;refine tkD 10 42 ?_;refine tkD 11 43 ?_;refine tkD 12 44 ?_;refine tkD 13 45 ?_;refine tkD 14 46 ?_;refine tkD 15 47 ?_;refine tkD 16 48 ?_;refine tkD 17 49 ?_;refine tkD 18 50 ?_;refine tkD 19 51 ?_;refine tkA 20 52 ?_;refine wpAnyH_done (by kernel_rfl) ?_ _;have YES:=mh (show awsB D (k+1)=true from by rw[awsB_succ,hall.out,AT.out]<;>rfl)
      go_wp2_with fail
      go_roundw
      case rel=>exact⟨k+1,by omega,by go_num,YES.out,L6.out⟩
      case measure=>simp[intOf];omega
     ·have AT:=mh (show awAt D k=false from by rw[AT.out];exact dqf hy)
      have hyd:decide (x1≤y1)=true:=dqt (by omega);have hyn:x1≤y1:=by omega
      clear hy;refine wp_region_held_drew (S:=fun w' => w'.cell? ⟨rb,0,none⟩=some (I O x0)∧w'.cell? ⟨rb,1,none⟩=some (I O x1)∧w'.cell? ⟨rb,2,none⟩=some (I O x2)∧w'.cell? ⟨rb,3,none⟩=some (I O x3)∧w'.cell? ⟨rb,4,none⟩=some (I O x4)∧w'.cell? ⟨rb,5,none⟩=some (I O x5)∧w'.cell? ⟨rb,6,none⟩=some (I O x6)∧w'.cell? ⟨rb,7,none⟩=some (I O x7)∧w'.cell? ⟨rb,8,none⟩=some (I O x8)∧w'.cell? ⟨w.heap.size,1,none⟩=some (I O D.farm)∧w'.cell? ⟨w.heap.size,3,none⟩=some (.slice (some ⟨b,off,none⟩) D.aw.length ac)∧w'.cell? ⟨b,off+j*9+1,none⟩=some (I O y1)) (by kernel_rfl) KD.out (fun hHeld=>?_);refine tkD 0 32 ?_;refine tkD 1 33 ?_;refine tkD 2 34 ?_;refine rdA 3 35 (fun K hK=>?_);go_simp;(with_reducible refine cmo (AWC.out _) ?_);rintro e w6 ⟨rfl,hb6⟩;have L6:=mh (L2.out.trans (hb6.mono L2.out.size));have K6:=mh (KS.out _ L6.out hb6);clear hb6
      go_wp2_with fail
      refine hK.out _ _ ?hSd0_3 (fun hHeld2=>?_)
      case hSd0_3=>exact K6.out
      clear hK K;refine tkD 4 36 ?_;refine tkD 5 37 ?_;refine tkD 6 38 ?_;refine tkD 7 39 ?_;refine tkD 8 40 ?_;refine tkD 9 41 ?_;refine tkD 10 42 ?_;refine tkD 11 43 ?_;refine tkD 12 44 ?_;refine tkD 13 45 ?_;refine tkD 14 46 ?_;refine tkD 15 47 ?_;refine tkD 16 48 ?_;refine tkD 17 49 ?_;refine tkD 18 50 ?_;refine tkD 19 51 ?_;refine tkA 20 52 ?_;refine wpAnyH_done (by kernel_rfl) ?_ _;have NO:=mh (NOT.out (by rw[AT.out]<;>simp))
      go_wp2_with fail
      go_ret
      exact⟨by rw[NO.out];rfl,HB0.out.trans (L6.out.mono HB0.out.size)⟩
  ·obtain rfl:k=D.aw.length:=by omega
   have EQ:=mh (show chk D=0 from by
    have h:=ERS.out;unfold rsB at h;rw[Bool.and_eq_true,decide_eq_true_eq]at h
    exact Dn.chk_ok EN.out H16.out h.2 hall.out h.1)
   clear hall hb
   go_wp2_with fail
   go_ret
   exact⟨by rw[EQ.out];rfl,HB0.out.trans (HB.out.mono HB0.out.size)⟩
end Go.Proofs.YtljibgchickcpaaGreatDoor
