/- Packed. -/
import Derived.Test.YtljibgchickcpaaGreatDoorC25
set_option maxRecDepth 100000
set_option maxHeartbeats 8000000
open Go.Value renaming int → I
open Go.IntKind renaming i64 → O
namespace Go.Proofs.YtljibgchickcpaaGreatDoor
open Go.RowKit Sc As Dn
theorem reasons35_any (r:RD)(D:Dec)(w:World)(h:DV w r D):Calls Tryz.prog 31 #[.agg (dCells r).toArray] w (BoolG (rsB D) w):=by
 have HV:=mh h;have e1:=h.year;have e2:=h.farm;have e3:=h.ver;have e4:=h.an;have e5:=h.rn;have hlen:=h.rs.len;have hlen2:=h.aw.len;clear h;obtain⟨yy,ff,vv,ap,an,ac,rp,rn,rc⟩:=r;simp only at e1 e2 e3 e4 e5;subst e1 e2 e3 e4 e5;simp only[dCells];have HB0:=mh (show Below w.heap.size w (w.alloc (.cells #[I O D.year,I O D.farm,I O D.ver,.slice ap D.aw.length ac,.slice rp D.rs.length rc] 26)) from balloc mle (brf _ _) _);have BD0:=mh (Blk.new w #[I O D.year,I O D.farm,I O D.ver,.slice ap D.aw.length ac,.slice rp D.rs.length rc] 26);obtain⟨w0,ew0⟩:∃W,w.alloc (.cells #[I O D.year,I O D.farm,I O D.ver,.slice ap D.aw.length ac,.slice rp D.rs.length rc] 26)=W:=⟨_,rfl⟩;rw[ew0]at HB0 BD0;have EW:=mh ew0
 go_enter Tryz.func31,Tryz.ntmps31
 go_upto_region 1 with fail
 clear ew0 EW;have q4:=BD0.out.cell 4
 go_upto_region 2 with fail
 clear q4
 go_loopw [8] (fun iv W=>∃k:Nat,k≤D.rs.length∧iv=I O (k:Int)∧rssB D k=true∧Below w0.heap.size w0 W) (fun iv _=>D.rs.length - (intOf iv).toNat)
 case atStart=>exact⟨0,Nat.zero_le _,rfl,rfl,brf _ _⟩
 case round =>
  obtain⟨wo,rfl⟩:∃wo:World,wo=wr:=⟨_,rfl⟩;obtain⟨k,hk,rfl,hall,hb⟩:=hrel;have hall:=mh hall;have HB:=mh hb;have hk0:(0:Int)≤(k:Int):=inn _
  by_cases hlt:k<D.rs.length
  ·have hk1:(k:Int)<(D.rs.length:Int):=by omega
   have NOT:=mh (fun (h:rsAt D k=false)=>show rsB D=false from by unfold rsB rssB;rw[all_le hlt h];rfl);obtain⟨b,off,e,hbl,c0,c1,c2⟩:=SRn_at (HV.out.rs.below HB0.out) hlt;simp only at e;subst e;have HBL:=mh (show b<w0.heap.size from hbl);have d0:=(hb.cell (p:=⟨b,off+k*3,none⟩) hbl).trans c0;have d1:=(hb.cell (p:=⟨b,off+k*3+1,none⟩) hbl).trans c1;have d2:=(hb.cell (p:=⟨b,off+k*3+2,none⟩) hbl).trans c2;have AT0:=mh (rsAt_some hlt)
   have PRV:=mh (fun (j:Nat) (e:j<D.rs.length)=>show(b<w0.heap.size∧w0.cell? ⟨b,off+j*3,none⟩=some (I O D.rs[j].line)∧w0.cell? ⟨b,off+j*3+1,none⟩=some (I O D.rs[j].scheme)∧w0.cell? ⟨b,off+j*3+2,none⟩=some (I O D.rs[j].kind)) from by
    obtain⟨b', off', e', hbl', k0,k1,k2⟩:=SRn_at (HV.out.rs.below HB0.out) e
    cases e'
    exact⟨hbl', k0,k1,k2⟩)
   obtain⟨⟨x1,x2,x3⟩,ex⟩:∃x,D.rs[k]=x:=⟨_,rfl⟩;have EX:=mh ex;rw[ex]at d0 d1 d2 AT0;simp only at d0 d1 d2 AT0;have rbl:wo.heap.size<(wo.alloc (.cells #[I O x1,I O x2,I O x3] 76)).heap.size:=by simp
   have R1:=mh (Blk.new wo #[I O x1,I O x2,I O x3] 76);have L1:=mh (show Below w0.heap.size w0 (wo.alloc (.cells #[I O x1,I O x2,I O x3] 76)) from hb.trans (((brf _ _).alloc mle _).mono hb.size));have HRB:=mh (show w0.heap.size≤wo.heap.size from hb.size)
   go_upto_region 4 with fail
   obtain⟨rb,erb⟩:∃n,wo.heap.size=n:=⟨_,rfl⟩;rw[erb]at R1 HRB ⊢;generalize wo.alloc (.cells #[I O x1,I O x2,I O x3] 76)=w1 at *;clear d0 d1 d2 c0 c1 c2 hbl ex hb HB rbl erb;have L2:=mh (show Below w0.heap.size w0 w1.drew from L1.out.trans ((brf w0.heap.size w1).drew));have R2:=mh (show Blk w1.drew rb #[I O x1,I O x2,I O x3] 76 from R1.out);have I1:=mh (fun (W:World)=>in35_any x1 0 19 W);have I2:=mh (fun (W:World)=>in35_any x3 1 6 W)
   have KS:=mh (fun (W:World) (hb:Below w1.drew.heap.size w1.drew W)=>show W.cell? ⟨rb,0,none⟩=some (I O x1)∧W.cell? ⟨rb,1,none⟩=some (I O x2)∧W.cell? ⟨rb,2,none⟩=some (I O x3)∧W.cell? ⟨w.heap.size,4,none⟩=some (.slice (some ⟨b,off,none⟩) D.rs.length rc) from by
    have g:=R2.out.below hb;have g2:=BD0.out.below (L2.out.trans (hb.mono L2.out.size))
    exact⟨g.cell 0,g.cell 1,g.cell 2,g2.cell 4⟩)
   have KD:=mh (KS.out _ (brf _ _));have L2K:=mh KD.out;have L2B:=mh (BD0.out.below L2.out);have L2Z:=mh (show rb<w1.drew.heap.size from R2.out.lt)
   cases e1:inR x1 0 19
   ·rw[e1]at I1 AT0
    have AT:=mh AT0.out;clear e1 I2;refine wp_region_held_drew (S:=fun w' => w'.cell? ⟨rb,0,none⟩=some (I O x1)∧w'.cell? ⟨rb,1,none⟩=some (I O x2)∧w'.cell? ⟨rb,2,none⟩=some (I O x3)∧w'.cell? ⟨w.heap.size,4,none⟩=some (.slice (some ⟨b,off,none⟩) D.rs.length rc)) (by kernel_rfl) KD.out (fun hHeld=>?_);refine tkD 0 13 ?_;refine tkD 1 14 ?_;refine rdA 2 15 (fun K hK=>?_);go_simp;(with_reducible refine cmo (I1.out _) ?_);rintro e w6 ⟨rfl,rfl⟩
    go_wp2_with fail
    refine hK.out _ _ ?hSa0_2 (fun hHeld2=>?_)
    case hSa0_2=>exact KD.out
    clear hK K;refine tkD 3 16 ?_;refine tkD 4 17 ?_;refine tkB 5 18 ?_;refine tkB 6 19 ?_;refine tkB 7 20 ?_;refine tkE 8 21 ?_;refine tkD 9 22 ?_;refine tkD 10 23 ?_;refine tkB 11 24 ?_;refine tkB 12 25 ?_;refine tkB 13 26 ?_;refine tkB 14 27 ?_;refine tkB 15 28 ?_;refine tkB 16 29 ?_;refine tkB 17 30 ?_;refine tkB 18 31 ?_;refine tkB 19 32 ?_;refine tkB 20 33 ?_;refine tkB 21 34 ?_;refine tkB 22 35 ?_;refine tkE 23 36 ?_;refine tkA 24 37 ?_;refine wpAnyH_done (by kernel_rfl) ?_ _;have NO:=mh (NOT.out (by rw[AT.out]<;>simp))
    go_wp2_with fail
    go_ret
    exact⟨by rw[NO.out];rfl,HB0.out.trans (L2.out.mono HB0.out.size)⟩
   ·rw[e1]at I1 AT0
    clear e1
    cases e2:inR x3 1 6
    ·rw[e2]at I2 AT0
     have AT:=mh AT0.out;clear e2;refine wp_region_held_drew (S:=fun w' => w'.cell? ⟨rb,0,none⟩=some (I O x1)∧w'.cell? ⟨rb,1,none⟩=some (I O x2)∧w'.cell? ⟨rb,2,none⟩=some (I O x3)∧w'.cell? ⟨w.heap.size,4,none⟩=some (.slice (some ⟨b,off,none⟩) D.rs.length rc)) (by kernel_rfl) KD.out (fun hHeld=>?_);refine tkD 0 13 ?_;refine tkD 1 14 ?_;refine rdA 2 15 (fun K hK=>?_);go_simp;(with_reducible refine cmo (I1.out _) ?_);rintro e w6 ⟨rfl,rfl⟩
     go_wp2_with fail
     refine hK.out _ _ ?hSb0_2 (fun hHeld2=>?_)
     case hSb0_2=>exact KD.out
     clear hK K;refine tkD 3 16 ?_;refine tkD 4 17 ?_;refine tkD 5 18 ?_;refine tkD 6 19 ?_;refine rdA 7 20 (fun K hK=>?_);go_simp;(with_reducible refine cmo (I2.out _) ?_);rintro e w6 ⟨rfl,rfl⟩
     go_wp2_with fail
     refine hK.out _ _ ?hSb0_7 (fun hHeld2=>?_)
     case hSb0_7=>exact KD.out
     clear hK K;refine tkD 8 21 ?_;refine tkD 9 22 ?_;refine tkD 10 23 ?_;refine tkB 11 24 ?_;refine tkB 12 25 ?_;refine tkB 13 26 ?_;refine tkB 14 27 ?_;refine tkB 15 28 ?_;refine tkB 16 29 ?_;refine tkB 17 30 ?_;refine tkB 18 31 ?_;refine tkB 19 32 ?_;refine tkB 20 33 ?_;refine tkB 21 34 ?_;refine tkB 22 35 ?_;refine tkE 23 36 ?_;refine tkA 24 37 ?_;refine wpAnyH_done (by kernel_rfl) ?_ _;have NO:=mh (NOT.out (by rw[AT.out]<;>simp))
     go_wp2_with fail
     go_ret
     exact⟨by rw[NO.out];rfl,HB0.out.trans (L2.out.mono HB0.out.size)⟩
    ·rw[e2]at I2 AT0
     clear e2
     by_cases hz:k=0
     ·have AT:=mh (show rsAt D k=(D.aw.any fun a=>decide (a.scheme=x2)) from by have e:=AT0.out;rw[hz]at e ⊢;exact e)
      have hkz:¬(0:Int)<(k:Int):=by omega
      have hkd:decide (0<k)=false:=dqf (by omega);have hkn:¬0<k:=by omega
      clear hz;refine wp_region_held_drew (S:=fun w' => w'.cell? ⟨rb,0,none⟩=some (I O x1)∧w'.cell? ⟨rb,1,none⟩=some (I O x2)∧w'.cell? ⟨rb,2,none⟩=some (I O x3)∧w'.cell? ⟨w.heap.size,4,none⟩=some (.slice (some ⟨b,off,none⟩) D.rs.length rc)) (by kernel_rfl) KD.out (fun hHeld=>?_);refine tkD 0 13 ?_;refine tkD 1 14 ?_;refine rdA 2 15 (fun K hK=>?_);go_simp;(with_reducible refine cmo (I1.out _) ?_);rintro e w6 ⟨rfl,rfl⟩
      go_wp2_with fail
      refine hK.out _ _ ?hSc0_2 (fun hHeld2=>?_)
      case hSc0_2=>exact KD.out
      clear hK K;refine tkD 3 16 ?_;refine tkD 4 17 ?_;refine tkD 5 18 ?_;refine tkD 6 19 ?_;refine rdA 7 20 (fun K hK=>?_);go_simp;(with_reducible refine cmo (I2.out _) ?_);rintro e w6 ⟨rfl,rfl⟩
      go_wp2_with fail
      refine hK.out _ _ ?hSc0_7 (fun hHeld2=>?_)
      case hSc0_7=>exact KD.out
      clear hK K;refine tkD 8 21 ?_;refine tkD 9 22 ?_;refine tkD 10 23 ?_;refine tkD 11 24 ?_;refine tkD 12 25 ?_;refine tkD 13 26 ?_;refine tkB 14 27 ?_;refine tkB 15 28 ?_;refine tkB 16 29 ?_;refine tkB 17 30 ?_;refine tkB 18 31 ?_;refine tkB 19 32 ?_;refine tkB 20 33 ?_;refine tkB 21 34 ?_;refine tkE 22 35 ?_;refine tkD 23 36 ?_;refine tkA 24 37 ?_;refine wpAnyH_done (by kernel_rfl) ?_ _;have HS:=mh (has35_any ap D.aw ac rb x2 w1.drew (HV.out.aw.below (HB0.out.trans (L2.out.mono HB0.out.size))) (L2K.out.2.1) (L2Z.out));have q3:=L2B.out.cell 3;obtain⟨bh,ebh⟩:∃z,(D.aw.any fun a=>decide (a.scheme=x2))=z:=⟨_,rfl⟩;rw[ebh]at HS AT;clear ebh
      cases bh
      ·have NO:=mh (NOT.out (by rw[AT.out]<;>simp))
       go_wp2_with (go_at_call 58;(with_reducible refine cmo HS.out ?_);rintro e w8 ⟨rfl,hb8⟩;have L8:=mh (L2.out.trans (hb8.mono L2.out.size));clear hb8)
       go_ret
       exact⟨by rw[NO.out];rfl,HB0.out.trans (L8.out.mono HB0.out.size)⟩
      ·have YES:=mh (show rssB D (k+1)=true from by rw[rssB_succ,hall.out,AT.out];rfl)
       go_wp2_with (go_at_call 58;(with_reducible refine cmo HS.out ?_);rintro e w8 ⟨rfl,hb8⟩;have L8:=mh (L2.out.trans (hb8.mono L2.out.size));clear hb8)
       go_roundw
       case rel=>exact⟨k+1,by omega,by go_num,YES.out,L8.out⟩
       case measure=>simp[intOf];omega
     ·obtain⟨j,ej⟩:∃j,k=j+1:=⟨k - 1,by omega⟩
      have hkz:(0:Int)<(k:Int):=by omega
      have hkd:decide (0<k)=true:=dqt (by omega);have hkn:0<k:=by omega
      have hj:j<D.rs.length:=by omega
      obtain⟨hbl,p0,p1,p2⟩:=PRV.out j hj
      have AT:=mh (show rsAt D k=(behindB ⟨x1,x2,x3⟩ D.rs[j]&&D.aw.any fun a=>decide (a.scheme=x2)) from by
       have e:=prevR_succ (D:=D) (r:=⟨x1,x2,x3⟩) hj;rw[← ej]at e
       rw[AT0.out,e];simp)
      obtain⟨⟨y1,y2,y3⟩,ey⟩:∃y,D.rs[j]=y:=⟨_,rfl⟩;rw[ey]at p0 p1 p2 AT;simp only at p0 p1 p2;have BH:=mh (fun (W:World)=>behind35_any ⟨x1,x2,x3⟩ ⟨y1,y2,y3⟩ W);simp only at BH
      have KS:=mh (fun (W:World) (hb:Below w0.heap.size w0 W) (hc:Blk W rb #[I O x1,I O x2,I O x3] 76)=>show W.cell? ⟨rb,0,none⟩=some (I O x1)∧W.cell? ⟨rb,1,none⟩=some (I O x2)∧W.cell? ⟨rb,2,none⟩=some (I O x3)∧W.cell? ⟨w.heap.size,4,none⟩=some (.slice (some ⟨b,off,none⟩) D.rs.length rc)∧W.cell? ⟨b,off+j*3,none⟩=some (I O y1)∧W.cell? ⟨b,off+j*3+1,none⟩=some (I O y2)∧W.cell? ⟨b,off+j*3+2,none⟩=some (I O y3) from by
       have g2:=BD0.out.below hb
       exact⟨hc.cell 0,hc.cell 1,hc.cell 2,g2.cell 4,(hb.cell (p:=⟨b,off+j*3,none⟩) hbl).trans p0,(hb.cell (p:=⟨b,off+j*3+1,none⟩) hbl).trans p1,(hb.cell (p:=⟨b,off+j*3+2,none⟩) hbl).trans p2⟩)
      have KD:=mh (KS.out _ L2.out R2.out);have KS:=mh (fun (W:World) (hb:Below w0.heap.size w0 W) (hd:Below w1.drew.heap.size w1.drew W)=>KS.out W hb (R2.out.below hd));clear p0 p1 p2 ey PRV;have s1:IntKind.i64.wrap ((k:Int) - 1)=(j:Int):=by rw[IntKind.wrap_i64];omega
      have j0:(0:Int)≤(j:Int):=inn _;have j1:(j:Int)<(D.rs.length:Int):=by omega
      obtain⟨bb,ebb⟩:∃z,behindB ⟨x1,x2,x3⟩ ⟨y1,y2,y3⟩=z:=⟨_,rfl⟩;rw[ebb]at BH AT;clear ebb hz ej
      cases bb
      ·
       refine wp_region_held_drew (S:=fun w' => w'.cell? ⟨rb,0,none⟩=some (I O x1)∧w'.cell? ⟨rb,1,none⟩=some (I O x2)∧w'.cell? ⟨rb,2,none⟩=some (I O x3)∧w'.cell? ⟨w.heap.size,4,none⟩=some (.slice (some ⟨b,off,none⟩) D.rs.length rc)∧w'.cell? ⟨b,off+j*3,none⟩=some (I O y1)∧w'.cell? ⟨b,off+j*3+1,none⟩=some (I O y2)∧w'.cell? ⟨b,off+j*3+2,none⟩=some (I O y3)) (by kernel_rfl) KD.out (fun hHeld=>?_)
       refine tkA 0 13 ?_
       simp only[Act.put,mnA,mnB,mnC];refine tkD 1 14 ?_;refine rdA 2 15 (fun K hK=>?_);go_simp;(with_reducible refine cmo (I1.out _) ?_);rintro e w6 ⟨rfl,rfl⟩
       go_wp2_with fail
       refine hK.out _ _ ?hSd0_2 (fun hHeld2=>?_)
       case hSd0_2=>exact KD.out
       clear hK K;refine tkD 3 16 ?_;refine tkD 4 17 ?_;refine tkD 5 18 ?_;refine tkD 6 19 ?_;refine rdA 7 20 (fun K hK=>?_);go_simp;(with_reducible refine cmo (I2.out _) ?_);rintro e w6 ⟨rfl,rfl⟩
       go_wp2_with fail
       refine hK.out _ _ ?hSd0_7 (fun hHeld2=>?_)
       case hSd0_7=>exact KD.out
       clear hK K;refine tkD 8 21 ?_;refine tkD 9 22 ?_;refine tkD 10 23 ?_;refine tkD 11 24 ?_;refine tkD 12 25 ?_;refine tkD 13 26 ?_;refine tkD 14 27 ?_;refine tkD 15 28 ?_;refine tkD 16 29 ?_;refine tkD 17 30 ?_;refine tkD 18 31 ?_;refine tkD 19 32 ?_;refine tkD 20 33 ?_;refine rdA 21 34 (fun K hK=>?_);go_simp;(with_reducible refine cmo (BH.out _) ?_);rintro e w6 ⟨rfl,hb6⟩;have L6:=mh (L2.out.trans (hb6.mono L2.out.size));have K6:=mh (KS.out _ L6.out hb6);have SZ6:=mh hb6.size;clear hb6
       go_wp2_with fail
       refine hK.out _ _ ?hSd0_21 (fun hHeld2=>?_)
       case hSd0_21=>exact K6.out
       clear hK K;refine tkD 22 35 ?_;refine tkD 23 36 ?_;refine tkA 24 37 ?_;refine wpAnyH_done (by kernel_rfl) ?_ _;have NO:=mh (NOT.out (by rw[AT.out]<;>simp))
       go_wp2_with fail
       go_ret
       exact⟨by rw[NO.out];rfl,HB0.out.trans (L6.out.mono HB0.out.size)⟩
      ·
       refine wp_region_held_drew (S:=fun w' => w'.cell? ⟨rb,0,none⟩=some (I O x1)∧w'.cell? ⟨rb,1,none⟩=some (I O x2)∧w'.cell? ⟨rb,2,none⟩=some (I O x3)∧w'.cell? ⟨w.heap.size,4,none⟩=some (.slice (some ⟨b,off,none⟩) D.rs.length rc)∧w'.cell? ⟨b,off+j*3,none⟩=some (I O y1)∧w'.cell? ⟨b,off+j*3+1,none⟩=some (I O y2)∧w'.cell? ⟨b,off+j*3+2,none⟩=some (I O y3)) (by kernel_rfl) KD.out (fun hHeld=>?_)
       refine tkA 0 13 ?_
       simp only[Act.put,mnA,mnB,mnC];refine tkD 1 14 ?_;refine rdA 2 15 (fun K hK=>?_);go_simp;(with_reducible refine cmo (I1.out _) ?_);rintro e w6 ⟨rfl,rfl⟩
       go_wp2_with fail
       refine hK.out _ _ ?hSe0_2 (fun hHeld2=>?_)
       case hSe0_2=>exact KD.out
       clear hK K;refine tkD 3 16 ?_;refine tkD 4 17 ?_;refine tkD 5 18 ?_;refine tkD 6 19 ?_;refine rdA 7 20 (fun K hK=>?_);go_simp;(with_reducible refine cmo (I2.out _) ?_);rintro e w6 ⟨rfl,rfl⟩
       go_wp2_with fail
       refine hK.out _ _ ?hSe0_7 (fun hHeld2=>?_)
       case hSe0_7=>exact KD.out
       clear hK K;refine tkD 8 21 ?_;refine tkD 9 22 ?_;refine tkD 10 23 ?_;refine tkD 11 24 ?_;refine tkD 12 25 ?_;refine tkD 13 26 ?_;refine tkD 14 27 ?_;refine tkD 15 28 ?_;refine tkD 16 29 ?_;refine tkD 17 30 ?_;refine tkD 18 31 ?_;refine tkD 19 32 ?_;refine tkD 20 33 ?_;refine rdA 21 34 (fun K hK=>?_);go_simp;(with_reducible refine cmo (BH.out _) ?_);rintro e w6 ⟨rfl,hb6⟩;have L6:=mh (L2.out.trans (hb6.mono L2.out.size));have K6:=mh (KS.out _ L6.out hb6);have SZ6:=mh hb6.size;clear hb6
       go_wp2_with fail
       refine hK.out _ _ ?hSe0_21 (fun hHeld2=>?_)
       case hSe0_21=>exact K6.out
       clear hK K;refine tkD 22 35 ?_;refine tkD 23 36 ?_;refine tkA 24 37 ?_;refine wpAnyH_done (by kernel_rfl) ?_ _;have L6K:=mh K6.out;have L6B:=mh (BD0.out.below L6.out);have L6Z:=mh (show rb<w6.heap.size from nll R2.out.lt SZ6.out);clear K6;have HS:=mh (has35_any ap D.aw ac rb x2 w6 (HV.out.aw.below (HB0.out.trans (L6.out.mono HB0.out.size))) (L6K.out.2.1) (L6Z.out));have q3:=L6B.out.cell 3;obtain⟨bh,ebh⟩:∃z,(D.aw.any fun a=>decide (a.scheme=x2))=z:=⟨_,rfl⟩;rw[ebh]at HS AT;clear ebh
       cases bh
       ·have NO:=mh (NOT.out (by rw[AT.out]<;>simp))
        go_wp2_with (go_at_call 58;(with_reducible refine cmo HS.out ?_);rintro e w8 ⟨rfl,hb8⟩;have L8:=mh (L6.out.trans (hb8.mono L6.out.size));clear hb8)
        go_ret
        exact⟨by rw[NO.out];rfl,HB0.out.trans (L8.out.mono HB0.out.size)⟩
       ·have YES:=mh (show rssB D (k+1)=true from by rw[rssB_succ,hall.out,AT.out];rfl)
        go_wp2_with (go_at_call 58;(with_reducible refine cmo HS.out ?_);rintro e w8 ⟨rfl,hb8⟩;have L8:=mh (L6.out.trans (hb8.mono L6.out.size));clear hb8)
        go_roundw
        case rel=>exact⟨k+1,by omega,by go_num,YES.out,L8.out⟩
        case measure=>simp[intOf];omega
  ·obtain rfl:k=D.rs.length:=by omega
   have hall:rssB D D.rs.length=true:=hall.out
   by_cases h2:D.rs.length≤200
   ·have EQ:=mh (show rsB D=true from by unfold rsB;rw[hall,dqt h2];rfl)
    have q4:=(BD0.out.below hb).cell 4;have h2i:(D.rs.length:Int)≤200:=by omega
    have h2d:decide ((D.rs.length:Int)≤200)=true:=dqt h2i;clear hall hb h2
    go_wp2_with fail
    go_ret
    exact⟨by rw[EQ.out];first|rfl|(rw[← h2d];rfl),HB0.out.trans (HB.out.mono HB0.out.size)⟩
   ·have EQ:=mh (show rsB D=false from by unfold rsB;rw[dqf h2];simp)
    have q4:=(BD0.out.below hb).cell 4;have h2i:¬(D.rs.length:Int)≤200:=by omega
    have h2d:decide ((D.rs.length:Int)≤200)=false:=dqf h2i;clear hall hb h2
    go_wp2_with fail
    go_ret
    exact⟨by rw[EQ.out];first|rfl|(rw[← h2d];rfl),HB0.out.trans (HB.out.mono HB0.out.size)⟩
end Go.Proofs.YtljibgchickcpaaGreatDoor
