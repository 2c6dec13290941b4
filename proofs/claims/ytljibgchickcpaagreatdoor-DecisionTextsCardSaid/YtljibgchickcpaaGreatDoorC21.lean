/- Packed. -/
import Derived.Test.YtljibgchickcpaaGreatDoorC20
set_option maxRecDepth 100000
set_option maxHeartbeats 8000000
open Go.Value renaming int → I
open Go.IntKind renaming i64 → O
namespace Go.Proofs.YtljibgchickcpaaGreatDoor
open Go.RowKit Sc As Dn
theorem Dn.num_named {y f v:Int}(h:named y f v=true):(num y f v==0)=false:=by
 have e:num y f v=(y*61+f)*100+v:=if_pos h;unfold named at h;simp only[Bool.and_eq_true,inR_iff]at h;rw[e];simp only[beq_eq_false_iff_ne,ne_eq];omega
theorem refcheck35_any (r:RD)(D:Dec)(w:World)(h:DV w r D):Calls Tryz.prog 12 #[.agg (dCells r).toArray] w (IntG (chk D) w):=by
 have HV:=mh h;have e1:=h.year;have e2:=h.farm;have e3:=h.ver;have e4:=h.an;have e5:=h.rn;have hlen:=h.rs.len;have hlen2:=h.aw.len;clear h;obtain⟨yy,ff,vv,ap,an,ac,rp,rn,rc⟩:=r;simp only at e1 e2 e3 e4 e5;subst e1 e2 e3 e4 e5;have HB0:=mh (show Below w.heap.size w (w.alloc (.cells #[I O D.year,I O D.farm,I O D.ver,.slice ap D.aw.length ac,.slice rp D.rs.length rc] 26)) from balloc mle (brf _ _) _);have BD0:=mh (Blk.new w #[I O D.year,I O D.farm,I O D.ver,.slice ap D.aw.length ac,.slice rp D.rs.length rc] 26);have N1:=mh (refnum35_any D.year D.farm D.ver (w.alloc (.cells #[I O D.year,I O D.farm,I O D.ver,.slice ap D.aw.length ac,.slice rp D.rs.length rc] 26)));simp only[dCells]
 cases en:named D.year D.farm D.ver
 ·have hnum:num D.year D.farm D.ver=0:=if_neg (by rw[en];decide)
  rw[hnum]at N1;have ER:=mh (chk_named en);clear en hnum
  go_enter Tryz.func12,Tryz.ntmps12
  go_wp2_with (go_at_call 15;(with_reducible refine cmo N1.out ?_);rintro e w1 ⟨rfl,rfl⟩)
  go_ret
  exact⟨by rw[ER.out];rfl,HB0.out⟩
 have EN:=mh en;have hnz:=num_named en;obtain⟨nn,enn⟩:∃n,num D.year D.farm D.ver=n:=⟨_,rfl⟩;rw[enn]at N1 hnz;clear en enn
 by_cases h16:D.aw.length≤16
 rotate_left
 ·have ER:=mh (chk_16 h16)
  have h16i:(16:Int)<(D.aw.length:Int):=by omega
  clear h16
  go_enter Tryz.func12,Tryz.ntmps12
  go_wp2_with (go_at_call 15;(with_reducible refine cmo N1.out ?_);rintro e w1 ⟨rfl,rfl⟩)
  go_ret
  exact⟨by rw[ER.out];rfl,HB0.out⟩
 have h16i:¬(16:Int)<(D.aw.length:Int):=by omega
 have H16:=mh h16;clear h16
 by_cases h200:D.rs.length≤200
 rotate_left
 ·have ER:=mh (chk_200 h200)
  have h200i:(200:Int)<(D.rs.length:Int):=by omega
  clear h200
  go_enter Tryz.func12,Tryz.ntmps12
  go_wp2_with (go_at_call 15;(with_reducible refine cmo N1.out ?_);rintro e w1 ⟨rfl,rfl⟩)
  go_ret
  exact⟨by rw[ER.out];rfl,HB0.out⟩
 have h200i:¬(200:Int)<(D.rs.length:Int):=by omega
 have H200:=mh h200;clear h200
 go_enter Tryz.func12,Tryz.ntmps12
 go_upto_region 4 with (first|(go_at_call 15;(with_reducible refine cmo N1.out ?_);rintro e w1 ⟨rfl,rfl⟩)|fail)
 clear N1 hnz;generalize w.alloc (.cells #[I O D.year,I O D.farm,I O D.ver,.slice ap D.aw.length ac,.slice rp D.rs.length rc] 26)=w0 at *
 go_loopw [3] (fun iv W=>∃k:Nat,k≤D.aw.length∧iv=I O (k:Int)∧awsB D k=true∧Below w0.heap.size w0 W) (fun iv _=>D.aw.length - (intOf iv).toNat)
 case atStart=>exact⟨0,Nat.zero_le _,rfl,rfl,brf _ _⟩
 case round =>
  obtain⟨wo,rfl⟩:∃wo:World,wo=wr:=⟨_,rfl⟩;obtain⟨k,hk,rfl,hall,hb⟩:=hrel;have hall:=mh hall;have HB:=mh hb;have hk0:(0:Int)≤(k:Int):=inn _;have q3:=(BD0.out.below hb).cell 3
  by_cases hlt:k<D.aw.length
  ·have hk1:(k:Int)<(D.aw.length:Int):=by omega
   have NOT:=mh (fun (h:awAt D k=false)=>chk_aw hlt h);obtain⟨b,off,e,hbl,cc⟩:=SA_at (HV.out.aw.below HB0.out) hlt;simp only at e;subst e;have AT0:=mh (awAt_some hlt)
   have PRV:=mh (fun (j:Nat) (e:j<D.aw.length)=>show(b<w0.heap.size∧w0.cell? ⟨b,off+j*9+1,none⟩=some (I O D.aw[j].scheme)) from by
    obtain⟨b', off', e', hbl', kk⟩:=SA_at (HV.out.aw.below HB0.out) e
    cases e'
    exact⟨hbl', kk.c1⟩)
   obtain⟨d0,d1,d2,d3,d4,d5,d6,d7,d8⟩:=cc;obtain⟨⟨x0,x1,x2,x3,x4,x5,x6,x7,x8⟩,ex⟩:∃x,D.aw[k]=x:=⟨_,rfl⟩;rw[ex]at d0 d1 d2 d3 d4 d5 d6 d7 d8 AT0;simp only at d0 d1 d2 d3 d4 d5 d6 d7 d8;have L2:=mh (show Below w0.heap.size w0 wo.drew from hb.trans ((brf w0.heap.size wo).drew));have AWC:=mh (fun (W:World)=>refright35_any ⟨x0,x1,x2,x3,x4,x5,x6,x7,x8⟩ D.farm W);simp only at AWC
   have KS:=mh (fun (W:World) (hb:Below w0.heap.size w0 W)=>show W.cell? ⟨b,off+k*9,none⟩=some (I O x0)∧W.cell? ⟨b,off+k*9+1,none⟩=some (I O x1)∧W.cell? ⟨b,off+k*9+2,none⟩=some (I O x2)∧W.cell? ⟨b,off+k*9+3,none⟩=some (I O x3)∧W.cell? ⟨b,off+k*9+4,none⟩=some (I O x4)∧W.cell? ⟨b,off+k*9+5,none⟩=some (I O x5)∧W.cell? ⟨b,off+k*9+6,none⟩=some (I O x6)∧W.cell? ⟨b,off+k*9+7,none⟩=some (I O x7)∧W.cell? ⟨b,off+k*9+8,none⟩=some (I O x8)∧W.cell? ⟨w.heap.size,1,none⟩=some (I O D.farm)∧W.cell? ⟨w.heap.size,3,none⟩=some (.slice (some ⟨b,off,none⟩) D.aw.length ac) from by
    have g2:=BD0.out.below hb
    exact⟨(hb.cell (p:=⟨b,off+k*9,none⟩) hbl).trans d0,(hb.cell (p:=⟨b,off+k*9+1,none⟩) hbl).trans d1,(hb.cell (p:=⟨b,off+k*9+2,none⟩) hbl).trans d2,(hb.cell (p:=⟨b,off+k*9+3,none⟩) hbl).trans d3,(hb.cell (p:=⟨b,off+k*9+4,none⟩) hbl).trans d4,(hb.cell (p:=⟨b,off+k*9+5,none⟩) hbl).trans d5,(hb.cell (p:=⟨b,off+k*9+6,none⟩) hbl).trans d6,(hb.cell (p:=⟨b,off+k*9+7,none⟩) hbl).trans d7,(hb.cell (p:=⟨b,off+k*9+8,none⟩) hbl).trans d8,g2.cell 1,g2.cell 3⟩)
   have KD:=mh (KS.out _ L2.out);clear d0 d2 d3 d4 d5 d6 d7 d8 ex hb HB
   cases e1:awB ⟨x0,x1,x2,x3,x4,x5,x6,x7,x8⟩ D.farm
   ·rw[e1]at AWC AT0
    have AT:=mh (show awAt D k=false from by rw[AT0.out]<;>simp);clear e1 d1
    go_wp2_with fail
    clear q3;refine wp_region_held_drew (S:=fun w' => w'.cell? ⟨b,off+k*9,none⟩=some (I O x0)∧w'.cell? ⟨b,off+k*9+1,none⟩=some (I O x1)∧w'.cell? ⟨b,off+k*9+2,none⟩=some (I O x2)∧w'.cell? ⟨b,off+k*9+3,none⟩=some (I O x3)∧w'.cell? ⟨b,off+k*9+4,none⟩=some (I O x4)∧w'.cell? ⟨b,off+k*9+5,none⟩=some (I O x5)∧w'.cell? ⟨b,off+k*9+6,none⟩=some (I O x6)∧w'.cell? ⟨b,off+k*9+7,none⟩=some (I O x7)∧w'.cell? ⟨b,off+k*9+8,none⟩=some (I O x8)∧w'.cell? ⟨w.heap.size,1,none⟩=some (I O D.farm)∧w'.cell? ⟨w.heap.size,3,none⟩=some (.slice (some ⟨b,off,none⟩) D.aw.length ac)) (by kernel_rfl) KD.out (fun hHeld=>?_);refine tkD 0 35 ?_;refine tkD 1 36 ?_;refine tkD 2 37 ?_;refine tkD 3 38 ?_;refine tkD 4 39 ?_;refine tkD 5 40 ?_;refine tkD 6 41 ?_;refine rdA 7 42 (fun K hK=>?_);go_simp;(with_reducible refine cmo (AWC.out _) ?_);rintro e w6 ⟨rfl,hb6⟩;have L6:=mh (L2.out.trans (hb6.mono L2.out.size));have K6:=mh (KS.out _ L6.out);clear hb6
    go_wp2_with fail
    refine hK.out _ _ ?hSa0_7 (fun hHeld2=>?_)
    case hSa0_7=>exact K6.out
    clear hK K;refine tkD 8 43 ?_;refine tkD 9 44 ?_;refine tkB 10 45 ?_;refine tkB 11 46 ?_;refine tkB 12 47 ?_;refine tkB 13 48 ?_;refine tkB 14 49 ?_;refine tkB 15 50 ?_;refine tkB 16 51 ?_;refine tkB 17 52 ?_;refine tkB 18 53 ?_;refine tkB 19 54 ?_;refine tkB 20 55 ?_;refine tkB 21 56 ?_;refine tkB 22 57 ?_;refine tkB 23 58 ?_;refine tkB 24 59 ?_;refine tkB 25 60 ?_;refine tkB 26 61 ?_;refine tkE 27 62 ?_;refine tkA 28 63 ?_;refine wpAnyH_done (by kernel_rfl) ?_ _;have NO:=mh (NOT.out (by rw[AT.out]<;>simp))
    go_wp2_with fail
    go_ret
    exact⟨by rw[NO.out];rfl,HB0.out.trans (L6.out.mono HB0.out.size)⟩
   ·rw[e1]at AWC AT0
    clear e1
    by_cases hz:k=0
    ·have AT:=mh (show awAt D k=true from by have e:=AT0.out;rw[hz]at e ⊢;exact e)
     have hkz:¬(0:Int)<(k:Int):=by omega
     have hkd:decide (0<k)=false:=dqf (by omega);have hkn:¬0<k:=by omega
     clear hz d1
     go_wp2_with fail
     clear q3;refine wp_region_held_drew (S:=fun w' => w'.cell? ⟨b,off+k*9,none⟩=some (I O x0)∧w'.cell? ⟨b,off+k*9+1,none⟩=some (I O x1)∧w'.cell? ⟨b,off+k*9+2,none⟩=some (I O x2)∧w'.cell? ⟨b,off+k*9+3,none⟩=some (I O x3)∧w'.cell? ⟨b,off+k*9+4,none⟩=some (I O x4)∧w'.cell? ⟨b,off+k*9+5,none⟩=some (I O x5)∧w'.cell? ⟨b,off+k*9+6,none⟩=some (I O x6)∧w'.cell? ⟨b,off+k*9+7,none⟩=some (I O x7)∧w'.cell? ⟨b,off+k*9+8,none⟩=some (I O x8)∧w'.cell? ⟨w.heap.size,1,none⟩=some (I O D.farm)∧w'.cell? ⟨w.heap.size,3,none⟩=some (.slice (some ⟨b,off,none⟩) D.aw.length ac)) (by kernel_rfl) KD.out (fun hHeld=>?_);refine tkD 0 35 ?_;refine tkD 1 36 ?_;refine tkD 2 37 ?_;refine tkD 3 38 ?_;refine tkD 4 39 ?_;refine tkD 5 40 ?_;refine tkD 6 41 ?_;refine rdA 7 42 (fun K hK=>?_);go_simp;(with_reducible refine cmo (AWC.out _) ?_);rintro e w6 ⟨rfl,hb6⟩;have L6:=mh (L2.out.trans (hb6.mono L2.out.size));have K6:=mh (KS.out _ L6.out);clear hb6
     go_wp2_with fail
     refine hK.out _ _ ?hSb0_7 (fun hHeld2=>?_)
     case hSb0_7=>exact K6.out
     clear hK K;refine tkD 8 43 ?_;refine tkD 9 44 ?_;refine tkD 10 45 ?_;refine tkD 11 46 ?_;refine tkD 12 47 ?_;refine tkB 13 48 ?_;refine tkB 14 49 ?_;refine tkB 15 50 ?_;refine tkB 16 51 ?_;refine tkB 17 52 ?_;refine tkB 18 53 ?_;refine tkB 19 54 ?_;refine tkB 20 55 ?_;refine tkB 21 56 ?_;refine tkB 22 57 ?_;refine tkB 23 58 ?_;refine tkB 24 59 ?_;refine tkB 25 60 ?_;refine tkE 26 61 ?_;refine tkD 27 62 ?_;refine tkA 28 63 ?_;refine wpAnyH_done (by kernel_rfl) ?_ _;have YES:=mh (show awsB D (k+1)=true from by rw[awsB_succ,hall.out,AT.out]<;>rfl)
     go_wp2_with fail
     go_roundw
     case rel=>exact⟨k+1,by omega,by go_num,YES.out,L6.out⟩
     case measure=>simp[intOf];omega
    ·obtain⟨j,ej⟩:∃j,k=j+1:=⟨k - 1,by omega⟩
     have hkz:(0:Int)<(k:Int):=by omega
     have hkd:decide (0<k)=true:=dqt (by omega);have hkn:0<k:=by omega
     have hj:j<D.aw.length:=by omega
     obtain⟨-,p1⟩:=PRV.out j hj
     have AT:=mh (show awAt D k=decide (D.aw[j].scheme<x1) from by
      have e:=prevA_succ (D:=D) (a:=⟨x0,x1,x2,x3,x4,x5,x6,x7,x8⟩) hj;rw[← ej]at e
      rw[AT0.out,e];simp)
     obtain⟨y1,ey⟩:∃y,D.aw[j].scheme=y:=⟨_,rfl⟩;rw[ey]at p1 AT
     have KS:=mh (fun (W:World) (hb:Below w0.heap.size w0 W)=>show W.cell? ⟨b,off+k*9,none⟩=some (I O x0)∧W.cell? ⟨b,off+k*9+1,none⟩=some (I O x1)∧W.cell? ⟨b,off+k*9+2,none⟩=some (I O x2)∧W.cell? ⟨b,off+k*9+3,none⟩=some (I O x3)∧W.cell? ⟨b,off+k*9+4,none⟩=some (I O x4)∧W.cell? ⟨b,off+k*9+5,none⟩=some (I O x5)∧W.cell? ⟨b,off+k*9+6,none⟩=some (I O x6)∧W.cell? ⟨b,off+k*9+7,none⟩=some (I O x7)∧W.cell? ⟨b,off+k*9+8,none⟩=some (I O x8)∧W.cell? ⟨w.heap.size,1,none⟩=some (I O D.farm)∧W.cell? ⟨w.heap.size,3,none⟩=some (.slice (some ⟨b,off,none⟩) D.aw.length ac)∧W.cell? ⟨b,off+j*9+1,none⟩=some (I O y1) from by
      have g:=KS.out W hb
      exact⟨g.1,g.2.1,g.2.2.1,g.2.2.2.1,g.2.2.2.2.1,g.2.2.2.2.2.1,g.2.2.2.2.2.2.1,g.2.2.2.2.2.2.2.1,g.2.2.2.2.2.2.2.2.1,g.2.2.2.2.2.2.2.2.2.1,g.2.2.2.2.2.2.2.2.2.2,(hb.cell (p:=⟨b,off+j*9+1,none⟩) hbl).trans p1⟩)
     have KD:=mh (KS.out _ L2.out);clear p1 ey PRV d1;have s1:IntKind.i64.wrap ((k:Int) - 1)=(j:Int):=by rw[IntKind.wrap_i64];omega
     have j0:(0:Int)≤(j:Int):=inn _;have j1:(j:Int)<(D.aw.length:Int):=by omega
     clear hz ej
     by_cases hy:y1<x1
     ·have AT:=mh (show awAt D k=true from by rw[AT.out];exact dqt hy)
      have hyd:decide (x1≤y1)=false:=dqf (by omega);have hyn:¬x1≤y1:=by omega
      clear hy
      go_wp2_with fail
      clear q3;refine wp_region_held_drew (S:=fun w' => w'.cell? ⟨b,off+k*9,none⟩=some (I O x0)∧w'.cell? ⟨b,off+k*9+1,none⟩=some (I O x1)∧w'.cell? ⟨b,off+k*9+2,none⟩=some (I O x2)∧w'.cell? ⟨b,off+k*9+3,none⟩=some (I O x3)∧w'.cell? ⟨b,off+k*9+4,none⟩=some (I O x4)∧w'.cell? ⟨b,off+k*9+5,none⟩=some (I O x5)∧w'.cell? ⟨b,off+k*9+6,none⟩=some (I O x6)∧w'.cell? ⟨b,off+k*9+7,none⟩=some (I O x7)∧w'.cell? ⟨b,off+k*9+8,none⟩=some (I O x8)∧w'.cell? ⟨w.heap.size,1,none⟩=some (I O D.farm)∧w'.cell? ⟨w.heap.size,3,none⟩=some (.slice (some ⟨b,off,none⟩) D.aw.length ac)∧w'.cell? ⟨b,off+j*9+1,none⟩=some (I O y1)) (by kernel_rfl) KD.out (fun hHeld=>?_);refine tkD 0 35 ?_;refine tkD 1 36 ?_;refine tkD 2 37 ?_;refine tkD 3 38 ?_;refine tkD 4 39 ?_;refine tkD 5 40 ?_;refine tkD 6 41 ?_;refine rdA 7 42 (fun K hK=>?_);go_simp;(with_reducible refine cmo (AWC.out _) ?_);rintro e w6 ⟨rfl,hb6⟩;have L6:=mh (L2.out.trans (hb6.mono L2.out.size));have K6:=mh (KS.out _ L6.out);clear hb6
      go_wp2_with fail
      refine hK.out _ _ ?hSc0_7 (fun hHeld2=>?_)
      case hSc0_7=>exact K6.out
      clear hK K;refine tkD 8 43 ?_;refine tkD 9 44 ?_;refine tkD 10 45 ?_;refine tkD 11 46 ?_;refine tkD 12 47 ?_;refine tkD 13 48 ?_;refine tkD 14 49 ?_;refine tkD 15 50 ?_;refine tkD 16 51 ?_;refine tkD 17 52 ?_;refine tkD 18 53 ?_;refine tkD 19 54 ?_;refine tkD 20 55 ?_;refine tkD 21 56 ?_;refine tkD 22 57 ?_;refine tkD 23 58 ?_;refine tkD 24 59 ?_;refine tkD 25 60 ?_;refine tkD 26 61 ?_;refine tkD 27 62 ?_;refine tkA 28 63 ?_;refine wpAnyH_done (by kernel_rfl) ?_ _;have YES:=mh (show awsB D (k+1)=true from by rw[awsB_succ,hall.out,AT.out]<;>rfl)
      go_wp2_with fail
      go_roundw
      case rel=>exact⟨k+1,by omega,by go_num,YES.out,L6.out⟩
      case measure=>simp[intOf];omega
     ·have AT:=mh (show awAt D k=false from by rw[AT.out];exact dqf hy)
      have hyd:decide (x1≤y1)=true:=dqt (by omega);have hyn:x1≤y1:=by omega
      clear hy
      go_wp2_with fail
      clear q3;refine wp_region_held_drew (S:=fun w' => w'.cell? ⟨b,off+k*9,none⟩=some (I O x0)∧w'.cell? ⟨b,off+k*9+1,none⟩=some (I O x1)∧w'.cell? ⟨b,off+k*9+2,none⟩=some (I O x2)∧w'.cell? ⟨b,off+k*9+3,none⟩=some (I O x3)∧w'.cell? ⟨b,off+k*9+4,none⟩=some (I O x4)∧w'.cell? ⟨b,off+k*9+5,none⟩=some (I O x5)∧w'.cell? ⟨b,off+k*9+6,none⟩=some (I O x6)∧w'.cell? ⟨b,off+k*9+7,none⟩=some (I O x7)∧w'.cell? ⟨b,off+k*9+8,none⟩=some (I O x8)∧w'.cell? ⟨w.heap.size,1,none⟩=some (I O D.farm)∧w'.cell? ⟨w.heap.size,3,none⟩=some (.slice (some ⟨b,off,none⟩) D.aw.length ac)∧w'.cell? ⟨b,off+j*9+1,none⟩=some (I O y1)) (by kernel_rfl) KD.out (fun hHeld=>?_);refine tkD 0 35 ?_;refine tkD 1 36 ?_;refine tkD 2 37 ?_;refine tkD 3 38 ?_;refine tkD 4 39 ?_;refine tkD 5 40 ?_;refine tkD 6 41 ?_;refine rdA 7 42 (fun K hK=>?_);go_simp;(with_reducible refine cmo (AWC.out _) ?_);rintro e w6 ⟨rfl,hb6⟩;have L6:=mh (L2.out.trans (hb6.mono L2.out.size));have K6:=mh (KS.out _ L6.out);clear hb6
      go_wp2_with fail
      refine hK.out _ _ ?hSd0_7 (fun hHeld2=>?_)
      case hSd0_7=>exact K6.out
      clear hK K;refine tkD 8 43 ?_;refine tkD 9 44 ?_;refine tkD 10 45 ?_;refine tkD 11 46 ?_;refine tkD 12 47 ?_;refine tkD 13 48 ?_;refine tkD 14 49 ?_;refine tkD 15 50 ?_;refine tkD 16 51 ?_;refine tkD 17 52 ?_;refine tkD 18 53 ?_;refine tkD 19 54 ?_;refine tkD 20 55 ?_;refine tkD 21 56 ?_;refine tkD 22 57 ?_;refine tkD 23 58 ?_;refine tkD 24 59 ?_;refine tkD 25 60 ?_;refine tkD 26 61 ?_;refine tkD 27 62 ?_;refine tkA 28 63 ?_;refine wpAnyH_done (by kernel_rfl) ?_ _;have NO:=mh (NOT.out (by rw[AT.out]<;>simp))
      go_wp2_with fail
      go_ret
      exact⟨by rw[NO.out];rfl,HB0.out.trans (L6.out.mono HB0.out.size)⟩
  ·obtain rfl:k=D.aw.length:=by omega
   clear hlt hk hk0;have hall:Hid (awsB D D.aw.length=true):=hall
   go_upto_region 9 with fail
   clear q3
   go_loopw [4] (fun iv W=>∃k:Nat,k≤D.rs.length∧iv=I O (k:Int)∧rssB D k=true∧Below w0.heap.size w0 W) (fun iv _=>D.rs.length - (intOf iv).toNat)
   case atStart=>exact⟨0,Nat.zero_le _,rfl,rfl,HB.out⟩
   case round =>
    clear HB hb;obtain⟨wp,rfl⟩:∃wp:World,wp=wr:=⟨_,rfl⟩;obtain⟨k,hk,rfl,hrs,hb⟩:=hrel;have HRS:=mh hrs;have HB:=mh hb;have hk0:(0:Int)≤(k:Int):=inn _;have q4:=(BD0.out.below hb).cell 4
    by_cases hlt:k<D.rs.length
    ·have hk1:(k:Int)<(D.rs.length:Int):=by omega
     have NOT:=mh (fun (h:rsAt D k=false)=>chk_rs hlt h);obtain⟨b,off,e,hbl,c0,c1,c2⟩:=SRn_at (HV.out.rs.below HB0.out) hlt;simp only at e;subst e;have AT0:=mh (rsAt_some hlt)
     have PRV:=mh (fun (j:Nat) (e:j<D.rs.length)=>show(b<w0.heap.size∧w0.cell? ⟨b,off+j*3,none⟩=some (I O D.rs[j].line)∧w0.cell? ⟨b,off+j*3+1,none⟩=some (I O D.rs[j].scheme)) from by
      obtain⟨b', off', e', hbl', k0,k1,k2⟩:=SRn_at (HV.out.rs.below HB0.out) e
      cases e'
      exact⟨hbl', k0,k1⟩)
     obtain⟨⟨x1,x2,x3⟩,ex⟩:∃x,D.rs[k]=x:=⟨_,rfl⟩;have d0:=(hb.cell (p:=⟨b,off+k*3,none⟩) hbl).trans c0;have d1:=(hb.cell (p:=⟨b,off+k*3+1,none⟩) hbl).trans c1;have d2:=(hb.cell (p:=⟨b,off+k*3+2,none⟩) hbl).trans c2;rw[ex]at d0 d1 d2 AT0;simp only at d0 d1 d2;have R1:=mh (Blk.new wp #[I O x1,I O x2,I O x3] 76);have L1:=mh (show Below w0.heap.size w0 (wp.alloc (.cells #[I O x1,I O x2,I O x3] 76)) from hb.trans (((brf _ _).alloc mle _).mono hb.size))
     go_upto_region 14 with fail
     obtain⟨rb,erb⟩:∃n,wp.heap.size=n:=⟨_,rfl⟩;rw[erb]at R1 ⊢;generalize wp.alloc (.cells #[I O x1,I O x2,I O x3] 76)=w1 at *;clear d0 d1 d2 c0 c1 c2 ex hb HB erb q4
     go_loopw [6,7] (fun fv mv W=>∃m:Nat,m≤D.aw.length∧mv=I O (m:Int)∧fv = .bool ((D.aw.take m).any fun a=>decide (a.scheme=x2))∧Below w1.heap.size w1 W) (fun _ mv _=>D.aw.length - (intOf mv).toNat)
     case atStart=>exact⟨0,Nat.zero_le _,rfl,rfl,brf _ _⟩
     case round =>
      obtain⟨wm,rfl⟩:∃wm:World,wm=wr:=⟨_,rfl⟩;obtain⟨m,hm,rfl,rfl,hb⟩:=hrel;have HB:=mh hb;have hm0:(0:Int)≤(m:Int):=inn _;have L2:=mh (show Below w0.heap.size w0 wm from L1.out.trans (hb.mono L1.out.size));have q3:=(BD0.out.below L2.out).cell 3;have R2:=R1.out.below hb;have r0:=R2.cell 0;have r1:=R2.cell 1;have r2:=R2.cell 2
      by_cases hlt2:m<D.aw.length
      ·have hm1:(m:Int)<(D.aw.length:Int):=by omega
       obtain⟨b2,off2,e,hbl2,kk⟩:=SA_at (HV.out.aw.below HB0.out) hlt2;simp only at e;subst e;have d1:=(L2.out.cell (p:=⟨b2,off2+m*9+1,none⟩) hbl2).trans kk.c1
       have ST:=mh (show((D.aw.take (m+1)).any fun a=>decide (a.scheme=x2))=(((D.aw.take m).any fun a=>decide (a.scheme=x2))||(D.aw[m].scheme==x2)) from by
        rw[tsg hlt2,List.any_append];simp;first|rfl|(by_cases h:D.aw[m].scheme=x2<;>simp[h]))
       obtain⟨y,ey⟩:∃y,D.aw[m].scheme=y:=⟨_,rfl⟩;obtain⟨fd,efd⟩:∃z,((D.aw.take m).any fun a=>decide (a.scheme=x2))=z:=⟨_,rfl⟩;rw[ey]at d1 ST;rw[efd]at ST ⊢;clear ey efd kk hb R2
       cases fd
       ·go_wp2_with fail
        go_quiet (fail)
        go_wp2_with fail
        go_roundw
        case rel=>exact⟨m+1,by omega,by go_num,by rw[ST.out]<;>rfl,bnext HB.out HB.out.size (drewN_below _ _)⟩
        case measure=>simp[intOf];omega
       ·go_wp2_with fail
        go_quiet (fail)
        go_wp2_with fail
        go_roundw
        case rel=>exact⟨m+1,by omega,by go_num,by rw[ST.out]<;>rfl,bnext HB.out HB.out.size (drewN_below _ _)⟩
        case measure=>simp[intOf];omega
      ·obtain rfl:m=D.aw.length:=by omega
       rw[List.take_length];have LOW:=mh (show Below w.heap.size w wm from HB0.out.trans (L2.out.mono HB0.out.size));clear hb hlt2 hm hm0 R2;obtain⟨fd,efd⟩:∃z,(D.aw.any fun a=>decide (a.scheme=x2))=z:=⟨_,rfl⟩;rw[efd]at AT0 ⊢;clear efd
       cases fd
       ·have AT:=mh (show rsAt D k=false from by rw[AT0.out]<;>simp)
        have NO:=mh (NOT.out AT.out)
        go_wp2_with fail
        go_ret
        exact⟨by rw[NO.out];rfl,LOW.out⟩
       by_cases h1:0≤x1
       rotate_left
       ·have AT:=mh (show rsAt D k=false from by rw[AT0.out,show inR x1 0 19=false from by unfold inR;rw[dqf h1];rfl]<;>rfl)
        have g1:x1<0:=by omega
        have NO:=mh (NOT.out AT.out)
        go_wp2_with fail
        go_ret
        exact⟨by rw[NO.out];rfl,LOW.out⟩
       by_cases h2:x1≤19
       rotate_left
       ·have AT:=mh (show rsAt D k=false from by rw[AT0.out,show inR x1 0 19=false from by unfold inR;rw[dqf h2];simp]<;>rfl)
        have g1:¬x1<0:=by omega
        have g2:20≤x1:=by omega
        have NO:=mh (NOT.out AT.out)
        go_wp2_with fail
        go_ret
        exact⟨by rw[NO.out];rfl,LOW.out⟩
       by_cases h3:1≤x3
       rotate_left
       ·have AT:=mh (show rsAt D k=false from by rw[AT0.out,show inR x3 1 6=false from by unfold inR;rw[dqf h3];rfl]<;>simp)
        have g1:¬x1<0:=by omega
        have g2:¬20≤x1:=by omega
        have g3:x3<1:=by omega
        have NO:=mh (NOT.out AT.out)
        go_wp2_with fail
        go_ret
        exact⟨by rw[NO.out];rfl,LOW.out⟩
       by_cases h4:x3≤6
       rotate_left
       ·have AT:=mh (show rsAt D k=false from by rw[AT0.out,show inR x3 1 6=false from by unfold inR;rw[dqf h4];simp]<;>simp)
        have g1:¬x1<0:=by omega
        have g2:¬20≤x1:=by omega
        have g3:¬x3<1:=by omega
        have g4:6<x3:=by omega
        have NO:=mh (NOT.out AT.out)
        go_wp2_with fail
        go_ret
        exact⟨by rw[NO.out];rfl,LOW.out⟩
       have g1:¬x1<0:=by omega
       have g2:¬20≤x1:=by omega
       have g3:¬x3<1:=by omega
       have g4:¬6<x3:=by omega
       have AT0:=mh (show rsAt D k=prevR D ⟨x1,x2,x3⟩ k from by rw[AT0.out,inR_iff.2 ⟨h1,h2⟩,inR_iff.2 ⟨h3,h4⟩];simp);have q4:=(BD0.out.below L2.out).cell 4;clear h1 h2 h3 h4
       by_cases hz:k=0
       ·have YES:=mh (show rssB D (k+1)=true from by rw[rssB_succ,HRS.out,AT0.out,hz]<;>rfl)
        have hkz:¬(0:Int)<(k:Int):=by omega
        have hkd:decide (0<k)=false:=dqf (by omega);have hkn:¬0<k:=by omega
        clear hz
        go_wp2_with fail
        go_quiet (fail)
        go_wp2_with fail
        go_roundw
        case rel=>exact⟨k+1,by omega,by go_num,YES.out,bnext L2.out L2.out.size (drewN_below _ _)⟩
        case measure=>simp[intOf];omega
       ·obtain⟨j,ej⟩:∃j,k=j+1:=⟨k - 1,by omega⟩
        have hkz:(0:Int)<(k:Int):=by omega
        have hkd:decide (0<k)=true:=dqt (by omega);have hkn:0<k:=by omega
        have hj:j<D.rs.length:=by omega
        obtain⟨hbl,p0,p1⟩:=PRV.out j hj
        have AT:=mh (show rsAt D k=behindB ⟨x1,x2,x3⟩ D.rs[j] from by
         have e:=prevR_succ (D:=D) (r:=⟨x1,x2,x3⟩) hj;rw[← ej]at e
         rw[AT0.out,e])
        obtain⟨⟨y1,y2,y3⟩,ey⟩:∃y,D.rs[j]=y:=⟨_,rfl⟩;rw[ey]at p0 p1 AT;simp only at p0 p1;have p0:=(L2.out.cell (p:=⟨b,off+j*3,none⟩) hbl).trans p0;have p1:=(L2.out.cell (p:=⟨b,off+j*3+1,none⟩) hbl).trans p1;have s1:IntKind.i64.wrap ((k:Int) - 1)=(j:Int):=by rw[IntKind.wrap_i64];omega
        have j0:(0:Int)≤(j:Int):=inn _;have j1:(j:Int)<(D.rs.length:Int):=by omega
        clear ey PRV hz ej AT0
        rcases Int.lt_trichotomy x1 y1 with hA|hA|hA
        ·have u1:decide (x1<y1)=true:=dqt hA
         have NO:=mh (NOT.out (by rw[AT.out];unfold behindB;simp;omega))
         go_wp2_with fail
         go_quiet (fail)
         go_wp2_with fail
         go_ret
         exact⟨by rw[NO.out];rfl,bstep mle LOW.out (drewN_below _ _)⟩
        ·have u1:¬x1<y1:=by omega
         have u1d:decide (x1<y1)=false:=dqf u1;have u2:(x1==y1)=true:=by simpa using hA
         by_cases h5:x2≤y2
         ·have u3:decide (x2≤y2)=true:=dqt h5
          have NO:=mh (NOT.out (by rw[AT.out];unfold behindB;simp;omega));clear hA
          go_wp2_with fail
          go_quiet (fail)
          go_wp2_with fail
          go_ret
          exact⟨by rw[NO.out];rfl,bstep mle LOW.out (drewN_below _ _)⟩
         ·have u3:decide (x2≤y2)=false:=dqf h5
          have YES:=mh (show rssB D (k+1)=true from by rw[rssB_succ,HRS.out,AT.out];unfold behindB;simp;omega);clear hA
          go_wp2_with fail
          go_quiet (fail)
          go_wp2_with fail
          go_roundw
          case rel=>exact⟨k+1,by omega,by go_num,YES.out,bnext L2.out L2.out.size (drewN_below _ _)⟩
          case measure=>simp[intOf];omega
        ·have u1:¬x1<y1:=by omega
         have u1d:decide (x1<y1)=false:=dqf u1;have u2:(x1==y1)=false:=by simp;omega
         have YES:=mh (show rssB D (k+1)=true from by rw[rssB_succ,HRS.out,AT.out];unfold behindB;simp;omega)
         go_wp2_with fail
         go_quiet (fail)
         go_wp2_with fail
         go_roundw
         case rel=>exact⟨k+1,by omega,by go_num,YES.out,bnext L2.out L2.out.size (drewN_below _ _)⟩
         case measure=>simp[intOf];omega
    ·obtain rfl:k=D.rs.length:=by omega
     have EQ:=mh (show chk D=0 from Dn.chk_ok EN.out H16.out H200.out hall.out HRS.out);clear hlt hb
     go_wp2_with fail
     go_ret
     exact⟨by rw[EQ.out];rfl,HB0.out.trans (HB.out.mono HB0.out.size)⟩
end Go.Proofs.YtljibgchickcpaaGreatDoor
