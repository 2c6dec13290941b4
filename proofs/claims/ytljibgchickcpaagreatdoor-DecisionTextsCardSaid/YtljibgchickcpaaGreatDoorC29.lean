/- Packed. -/
import Derived.Test.YtljibgchickcpaaGreatDoorC28
set_option maxRecDepth 100000
set_option maxHeartbeats 8000000
open Go.Value renaming int → I
open Go.IntKind renaming i64 → O
namespace Go.Proofs.YtljibgchickcpaaGreatDoor
open Go.RowKit Sc As Dn
structure PrS (w W:World) (b0:Nat) (dc:Array Value) (v:Value) (X:List ByteArray):Prop where
 bd:Blk W b0 dc 26
 own:OwnR SB W 9 (b0+1) v X
 low:Below b0 w W
 e:w.heap.size=b0
section
variable {w W W' : World} {b0:Nat} {dc:Array Value} {v u:Value} {X Y:List ByteArray}
theorem PrS.below (h:PrS w W b0 dc v X)(hb:Below W.heap.size W W'):PrS w W' b0 dc v X:=⟨h.bd.below hb,h.own.below hb,h.low.trans (hb.mono (Nat.le_of_lt h.bd.lt)),h.e⟩
theorem PrS.app (h:PrS w W b0 dc v X){H:Nat}(ho:OwnR SB W' 9 (b0+1) u Y)(ha:Appends W W' (b0+1) H v u):PrS w W' b0 dc u Y:=⟨(ha.below.block _ (Nat.lt_succ_self _)).trans h.bd,ho,h.low.trans (ha.below.mono (Nat.le_succ _)),h.e⟩
end
theorem line35_call (W:World)(first:ByteArray)(L:List Int)(cs:Array Value)(n:Nat)(hcs:(SI.flat L).toArray=cs)(hn:L.length=n)(hL:In64 L)(h8:n≤8)(hf:first.size≤100)(hE:Env W) :
  Calls Tryz.prog 36 #[.string first,.slice (some ⟨W.heap.size,0,none⟩) n n] (W.alloc (.cells cs 3)) fun e w' => e = .returned (.string (bs (lineT first.data.toList L)))∧Below (W.alloc (.cells cs 3)).heap.size (W.alloc (.cells cs 3)) w' :=by
 subst hcs hn;exact line35_any first _ L L.length _ (Recs.lit (S:=SI) W 3 L (by unfold maxLen;omega)).ints (hE.below ((brf _ _).alloc mle _)) hL h8 hf
theorem line35_drew (W:World)(first:ByteArray)(L:List Int)(cs:Array Value)(n:Nat)(hcs:(SI.flat L).toArray=cs)(hn:L.length=n)(hL:In64 L)(h8:n≤8)(hf:first.size≤100)(hE:Env W) :
  Calls Tryz.prog 36 #[.string first,.slice (some ⟨W.heap.size,0,none⟩) n n] (W.alloc (.cells cs 3)).drew fun e w' => e = .returned (.string (bs (lineT first.data.toList L)))∧Below (W.alloc (.cells cs 3)).drew.heap.size (W.alloc (.cells cs 3)).drew w' :=by
 subst hcs hn;exact line35_any first _ L L.length _ ((Recs.lit (S:=SI) W 3 L (by unfold maxLen;omega)).below (brf _ _).drew).ints ((hE.below ((brf _ _).alloc mle _)).drew) hL h8 hf
theorem print35_any (r:RD)(D:Dec)(w:World)(h:DV w r D)(hE:Env w):Calls Tryz.prog 19 #[.agg (dCells r).toArray] w (PrG D w):=by
 have HV:=mh h;have HE:=mh hE;have e1:=h.year;have e2:=h.farm;have e3:=h.ver;have e4:=h.an;have e5:=h.rn;have hlen:=h.rs.len;have hlen2:=h.aw.len;clear h hE;obtain⟨yy,ff,vv,ap,an,ac,rp,rn,rc⟩:=r;simp only at e1 e2 e3 e4 e5;subst e1 e2 e3 e4 e5;have HB0:=mh (show Below w.heap.size w (w.alloc (.cells #[I O D.year,I O D.farm,I O D.ver,.slice ap D.aw.length ac,.slice rp D.rs.length rc] 26)) from balloc mle (brf _ _) _);have BD0:=mh (Blk.new w #[I O D.year,I O D.farm,I O D.ver,.slice ap D.aw.length ac,.slice rp D.rs.length rc] 26);have CK:=mh (check35_any ⟨D.year,D.farm,D.ver,ap,D.aw.length,ac,rp,D.rs.length,rc⟩ D (w.alloc (.cells #[I O D.year,I O D.farm,I O D.ver,.slice ap D.aw.length ac,.slice rp D.rs.length rc] 26)) (HV.out.below HB0.out));simp only[dCells]at CK ⊢;unfold IntG at CK;obtain⟨c,ec⟩:∃c,Dn.chk D=c:=⟨_,rfl⟩;rw[ec]at CK;have EC:=mh ec;clear ec
 by_cases hc:c=0
 rotate_left
 ·have hne:(c != 0)=true:=by simpa using hc
  have HNE:=mh hc;clear hc
  go_enter Tryz.func19,Tryz.ntmps19
  go_wp2_with (go_at_call 11;(with_reducible refine cmo CK.out ?_);rintro e w1 ⟨rfl,hb1⟩;have HB1:=mh (bstep mle HB0.out hb1);clear hb1)
  go_ret2
  exact PrG.bad EC.out HNE.out HB1.out
 subst hc;have OK:=mh (ok_of EC.out);have NE0:((0:Int) != 0)=false:=by decide
 go_enter Tryz.func19,Tryz.ntmps19
 go_upto_region 4 with (first|(go_at_call 11;(with_reducible refine cmo CK.out ?_);rintro e w1 ⟨rfl,hb1⟩;have HB1:=mh (bstep mle HB0.out hb1);have BD1:=mh (BD0.out.below hb1);clear hb1)|fail)
 clear CK HB0 BD0;have LH:=mh (line35_call w1 ⟨#[100,101,99,105,115,105,111,110]⟩ [D.year,D.farm,D.ver] #[I O D.year,I O D.farm,I O D.ver] 3 rfl rfl OK.out.head (by decide) (by decide) (HE.out.below HB1.out));have c0:=BD1.out.cell 0;have c1:=BD1.out.cell 1;have c2:=BD1.out.cell 2
 go_upto_region 5 with (first|(go_at_call 36;(with_reducible refine cmo LH.out ?_);rintro e w2 ⟨rfl,hb2⟩;have HB2:=mh (HB1.out.trans ((((brf w1.heap.size w1).alloc mle (.cells #[I O D.year,I O D.farm,I O D.ver] 3)).trans (hb2.mono (by simp))).mono HB1.out.size));have BD2:=mh ((BD1.out.below ((brf w1.heap.size w1).alloc mle (.cells #[I O D.year,I O D.farm,I O D.ver] 3))).below hb2);clear hb2)|fail)
 obtain⟨b0,eb0⟩:∃n,w.heap.size=n:=⟨_,rfl⟩
 have P3:=mh (show PrS w (w2.alloc (.cells #[.string (bs (headL D))] 9)) b0 #[I O D.year,I O D.farm,I O D.ver,.slice ap D.aw.length ac,.slice rp D.rs.length rc] (.slice (some ⟨w2.heap.size,0,none⟩) 1 1) (([headL D]++(D.aw.take 0).map awL).map bs) from by
  subst eb0;have ha:=(brf w2.heap.size w2).alloc mle (.cells #[.string (bs (headL D))] 9)
  exact⟨BD2.out.below ha,(OwnR.litB (S:=SB) w2 9 [bs (headL D)] (by show 1≤_;unfold maxLen;omega)).mono BD2.out.lt,HB2.out.trans (ha.mono HB2.out.size),rfl⟩)
 have EH:bs (lineT (⟨#[100,101,99,105,115,105,111,110]⟩:ByteArray).data.toList [D.year,D.farm,D.ver])=bs (headL D):=rfl;rw[EH];clear EH c0 c1 c2 LH;generalize w2.alloc (.cells #[.string (bs (headL D))] 9)=w3 at *;generalize w2.heap.size=z2 at *;rw[eb0];have P3:=mh P3.out;have ELOW:=mh eb0;have q3:=P3.out.bd.cell 3;clear HB1 BD1 HB2 BD2
 go_upto_region 6 with fail
 clear q3
 go_loopw [5,27] (fun v iv W=>∃(k:Nat) (u:Value),k≤D.aw.length∧iv=I O (k:Int)∧u=v∧PrS w W b0 #[I O D.year,I O D.farm,I O D.ver,.slice ap D.aw.length ac,.slice rp D.rs.length rc] u (([headL D]++(D.aw.take k).map awL).map bs)) (fun _ iv _=>D.aw.length - (intOf iv).toNat)
 case atStart=>exact⟨0,_,Nat.zero_le _,rfl,rfl,P3.out⟩
 case round =>
  clear P3;obtain⟨wo,rfl⟩:∃wo:World,wo=wr:=⟨_,rfl⟩;obtain⟨k,u,hk,rfl,rfl,hP⟩:=hrel;have PR:=mh hP;clear hP;have hk0:(0:Int)≤(k:Int):=inn _
  by_cases hlt:k<D.aw.length
  ·have hk1:(k:Int)<(D.aw.length:Int):=by omega
   obtain⟨b,off,e,hbl,cc⟩:=SA_at (HV.out.aw.below (ELOW.out.symm▸PR.out.low)) hlt;simp only at e;subst e;obtain⟨d0,d1,d2,d3,d4,d5,d6,d7,d8⟩:=cc;have N64:=OK.out.awN (List.getElem_mem hlt)
   have NX:=mh (show([headL D]++(D.aw.take (k+1)).map awL).map bs=([headL D]++(D.aw.take k).map awL).map bs ++ [bs (awL D.aw[k])] from by
    simp only[tsg hlt,List.map_append,List.map_cons,List.map_nil,List.append_assoc])
   have LEN:=mh (show(([headL D]++(D.aw.take k).map awL).map bs).length≤17 from by
    have:=OK.out.al
    simp only[List.length_map,lap,List.length_cons,List.length_nil,List.length_take];omega)
   obtain⟨⟨x0,x1,x2,x3,x4,x5,x6,x7,x8⟩,ex⟩:∃x,D.aw[k]=x:=⟨_,rfl⟩;rw[ex]at d0 d1 d2 d3 d4 d5 d6 d7 d8 N64 NX;simp only at d0 d1 d2 d3 d4 d5 d6 d7 d8;have ha:=(brf wo.heap.size wo).alloc mle (.cells #[I O x0,I O x1,I O x2,I O x3,I O x4,I O x5,I O x6,I O x7,I O x8] 78);have P4:=mh (PR.out.below ha);have A4:=mh (Blk.new wo #[I O x0,I O x1,I O x2,I O x3,I O x4,I O x5,I O x6,I O x7,I O x8] 78);clear ex ha hbl
   go_upto_region 8 with fail
   obtain⟨rb,erb⟩:∃n,wo.heap.size=n:=⟨_,rfl⟩;rw[erb]at A4 ⊢;generalize wo.alloc (.cells #[I O x0,I O x1,I O x2,I O x3,I O x4,I O x5,I O x6,I O x7,I O x8] 78)=w4 at *;clear d0 d1 d2 d3 d4 d5 d6 d7 d8 erb PR;have LC:=mh (line35_call w4 ⟨#[97,119,97,114,100]⟩ [x1,x2,x3,x4,x5,x6,x7,x8] #[I O x1,I O x2,I O x3,I O x4,I O x5,I O x6,I O x7,I O x8] 8 rfl rfl N64 (by decide) (by decide) (HE.out.below (ELOW.out.symm▸P4.out.low)));have PA:=mh (P4.out.below ((brf w4.heap.size w4).alloc mle (.cells #[I O x1,I O x2,I O x3,I O x4,I O x5,I O x6,I O x7,I O x8] 3)));have x_0:=A4.out.cell 0;have x_1:=A4.out.cell 1;have x_2:=A4.out.cell 2;have x_3:=A4.out.cell 3;have x_4:=A4.out.cell 4;have x_5:=A4.out.cell 5;have x_6:=A4.out.cell 6;have x_7:=A4.out.cell 7;have x_8:=A4.out.cell 8;have EL:=mh (show bs (lineT (⟨#[97,119,97,114,100]⟩:ByteArray).data.toList [x1,x2,x3,x4,x5,x6,x7,x8])=bs (awL ⟨x0,x1,x2,x3,x4,x5,x6,x7,x8⟩) from rfl);obtain⟨S,eS⟩:∃S,bs (awL ⟨x0,x1,x2,x3,x4,x5,x6,x7,x8⟩)=S:=⟨_,rfl⟩;rw[eS]at EL NX;rw[EL.out]at LC;clear N64 eS
   go_wp2_with (first|(go_at_call 36;(with_reducible refine cmo LC.out ?_);rintro e w5 ⟨rfl,hb5⟩;have P5:=mh (PA.out.below hb5);clear hb5)|(at_builtin;(refine OwnR.append el_str rfl (.tmp 31) (.tmp 50) rfl (b0+1) _ (([headL D]++(D.aw.take k).map awL).map bs) S #[.string S] rfl P5.out.own rfl (by simp[Act.eval]) P5.out.bd.lt (by have:=LEN.out;omega) (by decide) ?_);intro v6 w6 hO6 hap6;have P6:=mh (P5.out.app hO6 hap6);clear hO6 hap6)|fail)
   go_roundw
   case rel=>exact⟨k+1,_,by omega,by go_num,rfl,by rw[NX.out];exact P6.out⟩
   case measure=>simp[intOf];omega
  ·obtain rfl:k=D.aw.length:=by omega
   have PR:=mh (show PrS w wo b0 #[I O D.year,I O D.farm,I O D.ver,.slice ap D.aw.length ac,.slice rp D.rs.length rc] u (([headL D]++(D.aw.map awL++(D.rs.take 0).map rsL)).map bs) from by
    have:=PR.out;rw[List.take_length]at this;simpa using this)
   have q4:=PR.out.bd.cell 4
   go_upto_region 11 with fail
   clear q4 hk hlt hk0
   go_loopw [5,56] (fun v iv W=>∃(k:Nat) (u:Value),k≤D.rs.length∧iv=I O (k:Int)∧u=v∧PrS w W b0 #[I O D.year,I O D.farm,I O D.ver,.slice ap D.aw.length ac,.slice rp D.rs.length rc] u (([headL D]++(D.aw.map awL++(D.rs.take k).map rsL)).map bs)) (fun _ iv _=>D.rs.length - (intOf iv).toNat)
   case atStart=>exact⟨0,_,Nat.zero_le _,rfl,rfl,PR.out⟩
   case round =>
    clear PR;obtain⟨wo,rfl⟩:∃wo:World,wo=wr:=⟨_,rfl⟩;obtain⟨k,u,hk,rfl,rfl,hP⟩:=hrel;have PR:=mh hP;clear hP;have hk0:(0:Int)≤(k:Int):=inn _
    by_cases hlt:k<D.rs.length
    ·have hk1:(k:Int)<(D.rs.length:Int):=by omega
     obtain⟨b,off,e,hbl,d0,d1,d2⟩:=SRn_at (HV.out.rs.below (ELOW.out.symm▸PR.out.low)) hlt;simp only at e;subst e;have N64:=OK.out.rsN (List.getElem_mem hlt);have RB:=OK.out.rs _ (List.getElem_mem hlt)
     have NX:=mh (show([headL D]++(D.aw.map awL++(D.rs.take (k+1)).map rsL)).map bs=([headL D]++(D.aw.map awL++(D.rs.take k).map rsL)).map bs ++ [bs (rsL D.rs[k])] from by
      simp only[tsg hlt,List.map_append,List.map_cons,List.map_nil,List.append_assoc])
     have LEN:=mh (show(([headL D]++(D.aw.map awL++(D.rs.take k).map rsL)).map bs).length≤217 from by
      have:=OK.out.al;have:=OK.out.rl
      simp only[List.length_map,lap,List.length_cons,List.length_nil,List.length_take];omega)
     obtain⟨⟨y0,y1,y2⟩,ex⟩:∃x,D.rs[k]=x:=⟨_,rfl⟩;rw[ex]at d0 d1 d2 N64 NX RB;simp only at d0 d1 d2 RB;obtain⟨kn,rfl⟩:∃n:Nat,y2=(n:Int):=⟨y2.toNat,by omega⟩;have hkn:kn<7:=by omega
     have hki:(kn:Int)<7:=by omega
     have hkn0:(0:Int)≤(kn:Int):=inn _;have ha:=(brf wo.heap.size wo).alloc mle (.cells #[I O y0,I O y1,I O (kn:Int)] 76);have P4:=mh (PR.out.below ha);have UNB:=mh (show ∀i,wo.heap.size≤i→u.ownBlock≠some i from fun i hi e=>by have:=(PR.out.own.lt e).2;omega);have A4:=mh (Blk.new wo #[I O y0,I O y1,I O (kn:Int)] 76);clear ex ha hbl
     go_upto_region 13 with fail
     obtain⟨rb,erb⟩:∃n,wo.heap.size=n:=⟨_,rfl⟩;rw[erb]at A4 UNB ⊢;generalize wo.alloc (.cells #[I O y0,I O y1,I O (kn:Int)] 76)=w4 at *;clear d0 d1 d2 erb PR;have PD:=mh (P4.out.below (brf _ _).drew);have RD0:=mh (show Blk w4.drew rb #[I O y0,I O y1,I O (kn:Int)] 76 from A4.out.below (brf _ _).drew);have BA:=mh (show Below w4.heap.size w4 (w4.alloc (.cells #[I O y0,I O y1] 3)).drew from((brf w4.heap.size w4).alloc mle (.cells #[I O y0,I O y1] 3)).drew);have PA:=mh (P4.out.below BA.out);have RA:=mh (A4.out.below BA.out);have NVU:=mh (show ∀i,rb≤i→u.ownBlock≠some i from UNB.out);have KS:=mh (fun (W:World) (h:Blk W rb #[I O y0,I O y1,I O (kn:Int)] 76)=>show W.cell? ⟨rb,0,none⟩=some (I O y0)∧W.cell? ⟨rb,1,none⟩=some (I O y1)∧W.cell? ⟨rb,2,none⟩=some (I O (kn:Int)) from⟨h.cell 0,h.cell 1,h.cell 2⟩);have KD:=mh (KS.out _ RD0.out);have KA:=mh (KS.out _ RA.out);have LNC:=mh (line35_drew w4 ⟨#[114,101,97,115,111,110]⟩ [y0,y1] #[I O y0,I O y1] 2 rfl rfl N64 (by decide) (by decide) (HE.out.below (ELOW.out.symm▸P4.out.low)));obtain⟨LS,eLS⟩:∃S,bs (lineT (⟨#[114,101,97,115,111,110]⟩:ByteArray).data.toList [y0,y1])=S:=⟨_,rfl⟩;have ELS:=mh eLS;have LSZ:LS.size≤48:=by
      rw[← eLS,bs_size];have h1:=lineT_len (f:=(⟨#[114,101,97,115,111,110]⟩:ByteArray).data.toList) N64;have h3:((⟨#[114,101,97,115,111,110]⟩:ByteArray).data.toList).length=6:=rfl;simp only[List.length_cons,List.length_nil]at h1;omega
     rw[eLS]at LNC;have hs1:¬9223372036854775807<LS.size+1:=by omega
     obtain⟨KS_,eKS⟩:∃S,bs (kindL (kn:Int))=S:=⟨_,rfl⟩;have EKS:=mh eKS;have hKs:KS_.size≤7:=by rw[← eKS,bs_size];exact kindL_len _
     have hidx:∀W:World,Sem.run Tryz.prog (Instr.index 84 (.agg #[.string ⟨#[]⟩,.string ⟨#[100,117,101]⟩,.string ⟨#[115,101,97,115,111,110]⟩,.string ⟨#[114,101,102,117,115,101,100]⟩,.string ⟨#[110,111,116,104,105,110,103]⟩,.string ⟨#[99,114,111,112]⟩,.string ⟨#[97,114,101,97]⟩]) (I O (kn:Int))) W = .ok (.string KS_) W:=by
      intro W;rw[← eKS];have h7:kn=0∨kn=1∨kn=2∨kn=3∨kn=4∨kn=5∨kn=6:=by omega
      rcases h7 with rfl|rfl|rfl|rfl|rfl|rfl|rfl
      all_goals first|rfl|(simp[go_sem];done)
     have hs2:¬9223372036854775807<LS.size+1+KS_.size:=by omega
     clear eLS N64 RB eKS;refine wp_region_held_drew (S:=fun w' => w'.cell? ⟨rb,0,none⟩=some (I O y0)∧w'.cell? ⟨rb,1,none⟩=some (I O y1)∧w'.cell? ⟨rb,2,none⟩=some (I O (kn:Int))) (by kernel_rfl) KD.out (fun hHeld=>?_);refine tkD 0 60 ?_;refine tkD 1 61 ?_;refine tkD 2 62 ?_;refine tkD 3 63 ?_;refine tkD 4 64 ?_;refine tkD 9 69 ?_;refine tkD 10 70 ?_;refine rdA 5 65 (fun K hK=>?_);go_simp;refine hK.out _ _ KA.out (fun hHeld2=>?_);clear hK K
     (try dsimp only[Act.put])
     try simp only[mnA,mnB,mnC]
     refine rdA 6 66 (fun K hK=>?_)
     go_simp
     (with_reducible refine cmo LNC.out ?_);rintro e v6 ⟨rfl,hb6⟩;have P6:=mh (PA.out.below hb6);have R6:=mh (RA.out.below hb6);clear hb6
     go_wp2_with fail
     refine hK.out _ _ (KS.out _ R6.out) (fun hHeld2=>?_)
     clear hK K
     (try dsimp only[Act.put])
     try simp only[mnA,mnB,mnC]
     refine tkA 7 67 ?_
     simp only[Act.put,mnA,mnB,mnC];refine rdA 8 68 (fun K hK=>?_);go_simp;(with_reducible refine cmo (kinds35_any _) ?_);rintro e v8 ⟨rfl,hb8⟩;have P8:=mh (P6.out.below hb8);have R8:=mh (R6.out.below hb8);clear hb8
     go_wp2_with fail
     refine hK.out _ _ (KS.out _ R8.out) (fun hHeld2=>?_)
     clear hK K
     (try dsimp only[Act.put])
     try simp only[mnA,mnB,mnC]
     refine tkA 11 71 ?_
     simp only[Act.put,mnA,mnB,mnC];refine tkD 12 72 ?_;refine rdA 13 73 (fun K hK=>?_);go_simp;refine hK.out _ _ (KS.out _ (R8.out.below ((brf _ _).alloc mle _))) (fun hHeld2=>?_);clear hK K
     (try dsimp only[Act.put])
     try simp only[mnA,mnB,mnC]
     have PL9:=mh (P8.out.below ((brf v8.heap.size v8).alloc mle (.cells #[.string ((LS++⟨#[32]⟩)++KS_)] 9)));have RL9:=mh (R8.out.below ((brf v8.heap.size v8).alloc mle (.cells #[.string ((LS++⟨#[32]⟩)++KS_)] 9)));have SR9:=mh (one_lit v8 ((LS++⟨#[32]⟩)++KS_))
     have ESL:=mh (show((LS++⟨#[32]⟩)++KS_)=bs (rsL ⟨y0,y1,(kn:Int)⟩) from by
      rw[← ELS.out,← EKS.out];refine ba_ext ?_;rw[bs_list,ByteArray.data_append,ByteArray.data_append,Array.toList_append,Array.toList_append,bs_list,bs_list,List.append_assoc]
      rfl)
     refine rdA 14 74 (fun K hK=>?_)
     refine OwnR.stepAp el_str (by rfl) (.tmp 60) (.tmp 73) (by rfl) (b0+1) u (([headL D]++(D.aw.map awL++(D.rs.take k).map rsL)).map bs) [(LS++⟨#[32]⟩)++KS_] (some ⟨v8.heap.size,0,none⟩) 1 1 rfl PL9.out.own SR9.out (fun h=>by cases h) (by rfl) (by rfl) PL9.out.bd.lt (by have:=LEN.out;omega) (by decide) ?_
     intro va wa hOa hapa;have PA2:=mh (PL9.out.app hOa hapa);have RA2:=mh (show Blk wa rb #[I O y0,I O y1,I O (kn:Int)] 76 from(hapa.far _ RL9.out.lt (NVU.out _ mle)).trans RL9.out);obtain⟨nv,env⟩:∃n,(([headL D]++(D.aw.map awL++(D.rs.take k).map rsL)).map bs ++ [(LS++⟨#[32]⟩)++KS_]).length=n:=⟨_,rfl⟩;obtain⟨pv,cv,rfl, -⟩:=hOa.cut env;clear env;clear hOa hapa;refine hK.out _ _ (KS.out _ RA2.out) (fun hHeld2=>?_);clear hK K
     (try dsimp only[Act.put])
     try simp only[mnA,mnB,mnC]
     refine tkA 15 5 ?_
     simp only[Act.put,mnA,mnB,mnC];refine wpAnyH_done (by kernel_rfl) ?_ _
     go_wp2_with fail
     go_roundw
     case rel=>exact⟨k+1,_,by omega,by go_num,rfl,by rw[NX.out,← ESL.out];exact PA2.out⟩
     case measure=>simp[intOf];omega
    ·obtain rfl:k=D.rs.length:=by omega
     have PR:=mh (show PrS w wo b0 #[I O D.year,I O D.farm,I O D.ver,.slice ap D.aw.length ac,.slice rp D.rs.length rc] u (([headL D]++(D.aw.map awL++D.rs.map rsL)).map bs) from by
      have:=PR.out;rw[List.take_length]at this;exact this)
     have q0:=PR.out.bd.cell 0;have q1:=PR.out.bd.cell 1;have q2:=PR.out.bd.cell 2;have q3:=PR.out.bd.cell 3;have q4:=PR.out.bd.cell 4;have TC:=mh (total35_any ⟨D.year,D.farm,D.ver,ap,D.aw.length,ac,rp,D.rs.length,rc⟩ D wo (HV.out.below (ELOW.out.symm▸PR.out.low)));simp only[dCells]at TC;unfold IntG at TC;have T64:=tot64 D.aw;have ETL:=mh (show totL D=lineT wTotal [totW D.aw] from rfl);obtain⟨tt,ett⟩:∃t,totW D.aw=t:=⟨_,rfl⟩;rw[ett]at TC T64 ETL;have LC:=mh (fun (W:World) (hb:Below wo.heap.size wo W)=>line35_call W ⟨#[116,111,116,97,108]⟩ [tt] #[I O tt] 1 rfl rfl T64 (by decide) (by decide) (HE.out.below (ELOW.out.symm▸(PR.out.below hb).low)));obtain⟨TS,eTS⟩:∃S,bs (lineT (⟨#[116,111,116,97,108]⟩:ByteArray).data.toList [tt])=S:=⟨_,rfl⟩;have ETS:=mh (show TS=bs (totL D) from by rw[← eTS,ETL.out];rfl);rw[eTS]at LC
     have LEN:=mh (show(([headL D]++(D.aw.map awL++D.rs.map rsL)).map bs).length≤217 from by
      have:=OK.out.al;have:=OK.out.rl
      simp only[List.length_map,lap,List.length_cons,List.length_nil];omega)
     have FIN:=mh (show(([headL D]++(D.aw.map awL++D.rs.map rsL)).map bs ++ [TS,⟨#[]⟩]).map (·.data.toList)=linesL D ++ [[]] from by
      rw[ETS.out];unfold linesL;simp only[List.map_append,List.map_map,List.map_cons,List.map_nil,bs_list,List.append_assoc,List.cons_append,List.nil_append];have e1:(fun (x:ByteArray)=>x.data.toList) ∘ bs ∘ awL=awL:=by funext x;exact bs_list _
      have e2:(fun (x:ByteArray)=>x.data.toList) ∘ bs ∘ rsL=rsL:=by funext x;exact bs_list _
      rw[e1,e2])
     clear ett eTS T64 hk hlt hk0
     go_upto_region 16 with (first|(go_at_call 13;(with_reducible refine cmo TC.out ?_);rintro e w5 ⟨rfl,hb5⟩;have P5:=mh (PR.out.below hb5);have LC5:=mh (LC.out w5 hb5);have P6:=mh (P5.out.below ((brf w5.heap.size w5).alloc mle (.cells #[I O tt] 3)));clear hb5)|(go_at_call 36;(with_reducible refine cmo LC5.out ?_);rintro e w7 ⟨rfl,hb7⟩;have P7:=mh (P6.out.below hb7);have P8:=mh (P7.out.below ((brf w7.heap.size w7).alloc mle (.cells #[.string TS,.string ⟨#[]⟩] 9)));have SR:=mh (Recs.lit (S:=SB) w7 9 [TS,⟨#[]⟩] (by show 2≤_;unfold maxLen;omega));clear hb7)|(at_builtin;(refine OwnR.appendAll el_str rfl (.tmp 76) (.tmp 81) rfl (b0+1) _ (([headL D]++(D.aw.map awL++D.rs.map rsL)).map bs) [TS,⟨#[]⟩] (some ⟨w7.heap.size,0,none⟩) 2 2 rfl P8.out.own SR.out (fun h=>by cases h) rfl rfl P8.out.bd.lt (by have:=LEN.out;omega) (by decide) ?_);intro v9 w9 hO9 hap9;have P9:=mh (P8.out.app hO9 hap9);clear hO9 hap9)|fail)
     obtain⟨nv,env⟩:∃n,(([headL D]++(D.aw.map awL++D.rs.map rsL)).map bs ++ [TS,⟨#[]⟩]).length=n:=⟨_,rfl⟩;obtain⟨pj,cj,rfl, -, -,hcj, -,hrj⟩:=P9.out.own.cut env
     have JN:=mh (show Calls Tryz.prog 38 #[.slice pj nv cj,.string ⟨#[10]⟩] w9 (StrG (textL D) w9) from by
      have ej:Lib.join (linesL D ++ [[]]) (⟨#[10]⟩:ByteArray).data.toList=textL D:=join_nl _ (by unfold linesL;simp);have hn:nv≤219:=by
       have:=LEN.out;rw[← env,lap];simp only[List.length_cons,List.length_nil];omega
      have:=joinsep_any pj (([headL D]++(D.aw.map awL++D.rs.map rsL)).map bs ++ [TS,⟨#[]⟩]) cj ⟨#[10]⟩ w9 hrj (by rw[env];exact hcj) (by rw[FIN.out,ej];have:=OK.out.text;omega) (by rw[env];omega);rw[env,FIN.out,ej]at this
      exact this)
     unfold StrG at JN;clear hrj hcj env
     go_wp2_with (go_at_call 38;(with_reducible refine cmo JN.out ?_);rintro e wz ⟨rfl,hbz⟩;have PZ:=mh (P9.out.below hbz);clear hbz)
     go_ret2
     exact PrG.ok EC.out (ELOW.out.symm▸PZ.out.low) rfl
end Go.Proofs.YtljibgchickcpaaGreatDoor
namespace Go.Proofs.YtljibgchickcpaaGreatDoor
open Go.RowKit Sc As Dn
def dA:Dec:=⟨3,5,1, [], []⟩
theorem dA_chk:chk dA=0:=by decide +kernel
theorem dA_text:textL dA = [100,101,99,105,115,105,111,110,32,51,32,53,32,49,10,116,111,116,97,108,32,48,10]:=by decide +kernel
theorem dA_parse:parse [100,101,99,105,115,105,111,110,32,51,32,53,32,49,10,116,111,116,97,108,32,48,10]=(dA,0,0):=by kernel_rfl
theorem awake35_any (w:World)(hE:Env w):Calls Tryz.prog 6 #[] w (BoolG true w):=by
 have R1:=mh (Blk.new w #[I O 3,I O 5,I O 1,.slice none 0 0,.slice none 0 0] 26);have B1:=mh (show Below w.heap.size w (w.alloc (.cells #[I O 3,I O 5,I O 1,.slice none 0 0,.slice none 0 0] 26)) from(brf _ _).alloc mle _);have HE:=mh hE;have DVn:∀W:World,DV W ⟨3,5,1,none,0,0,none,0,0⟩ dA:=fun W=>⟨rfl,rfl,rfl,Recs.nil _ _,rfl,Nat.le_refl _,Recs.nil _ _,rfl,Nat.le_refl _,fun _=>rfl,fun _=>rfl⟩
 have PR:=mh (show Calls Tryz.prog 19 #[.agg #[I O 3,I O 5,I O 1,.slice none 0 0,.slice none 0 0]] (w.alloc (.cells #[I O 3,I O 5,I O 1,.slice none 0 0,.slice none 0 0] 26)) (fun e w' => e = .returned (.tuple #[.string ⟨#[100,101,99,105,115,105,111,110,32,51,32,53,32,49,10,116,111,116,97,108,32,48,10]⟩,I O 0])∧Below (w.alloc (.cells #[I O 3,I O 5,I O 1,.slice none 0 0,.slice none 0 0] 26)).heap.size (w.alloc (.cells #[I O 3,I O 5,I O 1,.slice none 0 0,.slice none 0 0] 26)) w') from by
  have:=print35_any ⟨3,5,1,none,0,0,none,0,0⟩ dA (w.alloc (.cells #[I O 3,I O 5,I O 1,.slice none 0 0,.slice none 0 0] 26)) (DVn _) (hE.below B1.out);unfold PrG prT at this;rw[dA_chk,if_pos rfl,dA_text]at this
  exact this)
 have PA:=mh (fun (W:World) (hW:Below w.heap.size w W)=>show Calls Tryz.prog 21 #[.string ⟨#[100,101,99,105,115,105,111,110,32,51,32,53,32,49,10,116,111,116,97,108,32,48,10]⟩] W (fun e w' => ∃r:RD,e = .returned (.tuple #[.agg #[I O r.year,I O r.farm,I O r.ver,.slice r.ap r.an r.ac,.slice r.rp r.rn r.rc],I O 0,I O 0])∧DO W.heap.size w' r dA∧Below W.heap.size W w') from by
  have:=parse35_any ⟨#[100,101,99,105,115,105,111,110,32,51,32,53,32,49,10,116,111,116,97,108,32,48,10]⟩ W (hE.below hW) (by decide);unfold ParseG at this;rw[show(⟨#[100,101,99,105,115,105,111,110,32,51,32,53,32,49,10,116,111,116,97,108,32,48,10]⟩:ByteArray).data.toList = [100,101,99,105,115,105,111,110,32,51,32,53,32,49,10,116,111,116,97,108,32,48,10] from rfl,dA_parse]at this
  exact this)
 have SP:=mh (fun W:World=>show Calls Tryz.prog 16 #[I O 18801] W (fun e w' => e = .returned (.tuple #[I O 3,I O 5,I O 1,.bool true])∧W=w') from by
  have:=split35_any 18801 W (by omega) (by omega);unfold SplG at this;rw[show spl 18801=#[I O 3,I O 5,I O 1,.bool true] from by kernel_rfl]at this
  exact this)
 have NU:=mh (fun W:World=>show Calls Tryz.prog 18 #[I O 3,I O 5,I O 1] W (fun e w' => e = .returned (I O 18801)∧W=w') from by
  have:=num35_any 3 5 1 W;rw[show num 3 5 1=18801 from by decide]at this
  exact this)
 have CK:=mh (fun (W:World)=>show Calls Tryz.prog 11 #[.agg #[I O 3,I O 5,I O 1,.slice none 0 0,.slice none 0 0]] W (fun e w' => e = .returned (I O 0)∧Below W.heap.size W w') from by
  have:=check35_any ⟨3,5,1,none,0,0,none,0,0⟩ dA W (DVn W);unfold IntG at this;rw[dA_chk]at this
  exact this)
 have SM:=mh (fun (r:RD) (W:World) (h:DV W r dA)=>show Calls Tryz.prog 23 #[.agg #[I O r.year,I O r.farm,I O r.ver,.slice r.ap r.an r.ac,.slice r.rp r.rn r.rc],.agg #[I O 3,I O 5,I O 1,.slice none 0 0,.slice none 0 0]] W (fun e w' => e = .returned (.bool true)∧Below W.heap.size W w') from same35_any r ⟨3,5,1,none,0,0,none,0,0⟩ dA W h (DVn W));clear hE DVn
 go_enter Tryz.func6,Tryz.ntmps6
 go_upto_region 2 with fail
 generalize w.alloc (.cells #[I O 3,I O 5,I O 1,.slice none 0 0,.slice none 0 0] 26)=W1 at *;have x0:=R1.out.cell 0;have x1:=R1.out.cell 1;have x2:=R1.out.cell 2;have x3:=R1.out.cell 3;have x4:=R1.out.cell 4;simp only[List.getElem?_toArray,List.getElem?_cons_zero,List.getElem?_cons_succ]at x0 x1 x2 x3 x4;have lt1:=R1.out.lt
 go_wp2_with (first
  | (go_at_call 19;(with_reducible refine cmo PR.out ?_);rintro e w2 ⟨rfl,hb2⟩;have HB2:=mh (show Below w.heap.size w w2 from B1.out.trans (hb2.mono B1.out.size));have R2:=mh (R1.out.below hb2);clear hb2)
  | (go_at_call 21;(with_reducible refine cmo (PA.out w2 HB2.out) ?_);rintro e w3 ⟨r,rfl,ho,hb3⟩;have HO:=mh ho;have HB3:=mh (show Below w.heap.size w w3 from HB2.out.trans (hb3.mono HB2.out.size));have R3:=mh (R2.out.below hb3);have A4:=mh (show Below w3.heap.size w3 (w3.alloc (.cells #[I O r.year,I O r.farm,I O r.ver,.slice r.ap r.an r.ac,.slice r.rp r.rn r.rc] 26)) from(brf _ _).alloc mle _);have K4:=mh (Blk.new w3 #[I O r.year,I O r.farm,I O r.ver,.slice r.ap r.an r.ac,.slice r.rp r.rn r.rc] 26);clear ho hb3 x0 x1 x2 x3 x4 lt1;have R4:=mh (R3.out.below A4.out);have y0:=R4.out.cell 0;have y1:=R4.out.cell 1;have y2:=R4.out.cell 2;have y3:=R4.out.cell 3;have y4:=R4.out.cell 4;have z0:=K4.out.cell 0;have z1:=K4.out.cell 1;have z2:=K4.out.cell 2;have z3:=K4.out.cell 3;have z4:=K4.out.cell 4;simp only[List.getElem?_toArray,List.getElem?_cons_zero,List.getElem?_cons_succ]at y0 y1 y2 y3 y4 z0 z1 z2 z3 z4)
  | (go_at_call 16;(with_reducible refine cmo (SP.out _) ?_);rintro e w5 ⟨rfl,rfl⟩)
  | (go_at_call 11;(with_reducible refine cmo (CK.out _) ?_);rintro e w6 ⟨rfl,hb6⟩;have B6:=mh hb6;have R6:=mh (R4.out.below hb6);have K6:=mh (K4.out.below hb6);clear hb6 y0 y1 y2 y3 y4 z0 z1 z2 z3 z4;have y0:=R6.out.cell 0;have y1:=R6.out.cell 1;have y2:=R6.out.cell 2;have y3:=R6.out.cell 3;have y4:=R6.out.cell 4;have z0:=K6.out.cell 0;have z1:=K6.out.cell 1;have z2:=K6.out.cell 2;have z3:=K6.out.cell 3;have z4:=K6.out.cell 4;simp only[List.getElem?_toArray,List.getElem?_cons_zero,List.getElem?_cons_succ]at y0 y1 y2 y3 y4 z0 z1 z2 z3 z4;have SS:=mh (SM.out r w6 ((HO.out.below A4.out).below B6.out).dv))
  | (go_at_call 23;(with_reducible refine cmo SS.out ?_);rintro e w7 ⟨rfl,hb7⟩;have B7:=mh hb7;clear hb7)
  | (go_at_call 18;(with_reducible refine cmo (NU.out _) ?_);rintro e w8 ⟨rfl,rfl⟩)
  | fail)
 go_ret
 exact⟨rfl,(HB3.out.trans (A4.out.mono HB3.out.size)).trans ((B6.out.trans (B7.out.mono B6.out.size)).mono (Nat.le_trans HB3.out.size A4.out.size))⟩
namespace Dn
def rsnB (l:List (List UInt8)):Bool:=decide (l.length=3)&&numsB (l.take 2) 2&&decide (1≤kindI (l.getD 2 []))
end Dn
def RrsG (l:List (List UInt8)) (w:World) (e:Ending) (w' : World):Prop:=∃a b k:Int,e = .returned (.tuple #[.agg #[I O a,I O b,I O k],.bool (rsnB l)])∧(rsnB l=true→a=nvs l 0∧b=nvs l 1∧k=kindI (l.getD 2 []))∧Below w.heap.size w w'
theorem RrsG.no {l:List (List UInt8)}{w w' : World}{a b k:Int}(h:rsnB l=false)(hb:Below w.heap.size w w'):RrsG l w (.returned (.tuple #[.agg #[I O a,I O b,I O k],.bool false])) w' :=
 ⟨a,b,k,by rw[h],(fun h2=>by rw[h]at h2;cases h2),hb⟩
def kf (x:ByteArray) (k:Nat):Int:=idxW x (kws.drop k) (k:Int)
theorem kf_step {x:ByteArray}{k:Nat}(h:k<kws.length):kf x k=if x.data.toList=kws[k].data.toList then (k:Int) else kf x (k+1):=by
 unfold kf;rw[List.drop_eq_getElem_cons h,idxW_cons]
 push_cast
 rfl
theorem kf_end (x:ByteArray):kf x 7 = -1:=rfl
theorem kf_kind (x:ByteArray):(kf x 1 = -1→¬1≤kindI x.data.toList)∧(1≤kf x 1→kindI x.data.toList=kf x 1):=by
 have h:=idxW_kind x;have h0:idxW x kws 0=if x.data.toList = [] then 0 else kf x 1:=by
  have:=kf_step (x:=x) (k:=0) (by decide);exact this
 rw[← h,h0]
 by_cases hx:x.data.toList = []
 ·rw[if_pos hx]
  refine⟨fun _=>by omega,fun h1=>?_⟩
  have:kf x 1 = -1:=by
   unfold kf kws;simp only[List.drop_succ_cons,List.drop_zero,idxW_cons,hx]
   rfl
  omega
 ·rw[if_neg hx]
  exact⟨fun h=>by omega,fun _=>rfl⟩
theorem refreason35_any (q:Option Addr)(x:ByteArray)(ws:List ByteArray)(m c:Nat)(w:World)(hm:ws.length=m)(h:Recs SB w q (x::ws))(hc:m+1≤c)(hz:∀y∈ws,y.size≤16384)(hl:m≤20000) :
  Calls Tryz.prog 76 #[.slice q (m+1) c] w (RrsG (tl ws) w):=by
 have R0:=mh (Blk.new w #[I O 0,I O 0,I O 0] 76);have B0:=mh (show Below w.heap.size w (w.alloc (.cells #[I O 0,I O 0,I O 0] 76)) from(brf _ _).alloc mle _);have hm0:0≤(m:Int):=inn _
 by_cases h3:m=3
 rotate_left
 ·have HN:=mh (show rsnB (tl ws)=false from by unfold rsnB;rw[tl_len,dqf (by omega:¬ws.length=3)];rfl)
  have d3:((m:Int)+1 != 4)=true:=by simp;omega
  clear h hz
  go_enter Tryz.func76,Tryz.ntmps76
  go_wp2
  exact bodyPost_ret (v := .tuple #[.agg #[I O 0,I O 0,I O 0],.bool false]) (by simp[results,Tryz.results76,go_sem]) rfl (RrsG.no HN.out B0.out)
 subst h3;obtain⟨a,b,k,rfl⟩:∃a b k,ws = [a,b,k]:=by
  match ws,hm with
  | [a,b,k],_=>exact⟨a,b,k,rfl⟩
 have HT:=(h.take 3).below B0.out;have RE:=mh (show Calls Tryz.prog 75 #[.slice q 3 c,I O 2] (w.alloc (.cells #[I O 0,I O 0,I O 0] 76)) (NumsG (tl [a,b]) 2 (w.alloc (.cells #[I O 0,I O 0,I O 0] 76))) from refread35_any q x [a,b] 2 c 2 _ rfl HT (fun y hy=>hz y (by simp at hy ⊢;rcases hy with h|h<;>simp[h])) (by omega) (by omega));obtain⟨B,Ox,rfl,hBl,g3⟩:=SB_at h (show 3 < [x,a,b,k].length by simp);simp only[List.getElem_cons_zero,List.getElem_cons_succ]at g3;have g3:=(B0.out.cell (p:=⟨B,Ox+3,none⟩) hBl).trans g3;have hBl1:=nll hBl B0.out.size;have BNE:=mh (show B≠w.heap.size from Nat.ne_of_lt hBl);unfold NumsG at RE;have HRB:=mh (show rsnB (tl [a,b,k])=(numsB (tl [a,b]) 2&&decide (1≤kindI k.data.toList)) from rfl);have KK:=mh (kf_kind k);have HG:=mh (fun (W:World) (hb:numsB (tl [a,b]) 2=true) (v:Value) (w1:World) (h:true=true→OwnR SI w1 3 W.heap.size v ((tl [a,b]).map nv))=>NumsG.good hb (fun _=>h rfl));obtain⟨nbv,enb⟩:∃z,numsB (tl [a,b]) 2=z:=⟨_,rfl⟩;rw[enb]at RE HG HRB;clear h hz HT enb hBl hm
 go_enter Tryz.func76,Tryz.ntmps76
 go_upto_region 1 with fail
 generalize w.alloc (.cells #[I O 0,I O 0,I O 0] 76)=W1 at *
 go_wp2_with (go_at_call 75;(with_reducible refine cmo RE.out ?_);rintro e w2 ⟨v1,rfl,ho1,hb2⟩;have HO1:=mh ho1;have HB2:=mh (show Below w.heap.size w w2 from B0.out.trans (hb2.mono B0.out.size));have R2:=mh (R0.out.below hb2);have g2:=(hb2.cell (p:=⟨B,Ox+3,none⟩) hBl1).trans g3;have hBl2:=nll hBl1 hb2.size;clear ho1 hb2)
 go_loopw [6] (fun iv W=>∃j:Nat,1≤j∧j≤7∧iv=I O (j:Int)∧kf k j=kf k 1∧Below w2.heap.size w2 W) (fun iv _=>8 - (intOf iv).toNat)
 case atStart=>exact⟨1,Nat.le_refl _,by omega,rfl,rfl,brf _ _⟩
 case round =>
  obtain⟨j,hj1,hj7,rfl,hkf,hb⟩:=hrel;have HBr:=mh hb;have HKF:=mh hkf;have g4:=(hb.cell (p:=⟨B,Ox+3,none⟩) hBl2).trans g2;have hBl4:=nll hBl2 hb.size;have hj0:(0:Int)≤(j:Int):=inn _;clear hb hkf g3 hBl1 g2
  by_cases hgo:j<7∧nbv=true
  rotate_left
  ·have HN:=mh (show rsnB (tl [a,b,k])=false from by
    rw[HRB.out]
    cases hn:nbv
    ·rfl
    ·have h7:j=7:=by
      rcases Nat.lt_or_ge j 7 with h|h
      ·exact absurd ⟨h,hn⟩ hgo
      ·omega
     subst h7
     rw[dqf (show ¬1≤kindI k.data.toList from by have h1:=KK.out.1 (by rw[← HKF.out];exact kf_end k);omega)];rfl)
   have hg2:¬(j:Int)<7∨((j:Int)<7∧nbv=false):=by
    by_cases h:j<7
    ·exact .inr ⟨by omega,by cases hn:nbv;rfl;exact absurd ⟨h,hn⟩ hgo⟩
    ·exact .inl (by omega)
   clear hgo
   rcases hg2 with hg|⟨hg,rfl⟩
   all_goals
    go_upto_region 9 with (first|(go_at_call 40;(with_reducible refine cmo (refwords35_any _) ?_);rintro e w5 ⟨rfl,hw5⟩;have HB5:=mh (show Below w2.heap.size w2 w5 from HBr.out.trans (hw5▸((brf _ _).alloc HBr.out.size _)));have g5:=((show Below wr.heap.size wr w5 from hw5▸((brf _ _).alloc mle _)).cell (p:=⟨B,Ox+3,none⟩) hBl4).trans g4;have hBl5:B<w5.heap.size:=nll hBl2 HB5.out.size;clear hw5 g4 hBl4)|fail)
    have R5:=mh (R2.out.below HB5.out);have FINB:=mh (show Below w.heap.size w (((w5.setCell ⟨w.heap.size,0,none⟩ (I O 0)).setCell ⟨w.heap.size,1,none⟩ (I O 0)).setCell ⟨w.heap.size,2,none⟩ (I O 0)) from(((HB2.out.trans (HB5.out.mono HB2.out.size)).setCell (p:=⟨w.heap.size,0,none⟩) mle _).setCell (p:=⟨w.heap.size,1,none⟩) mle _).setCell (p:=⟨w.heap.size,2,none⟩) mle _);have FINR:=mh (show Blk (((w5.setCell ⟨w.heap.size,0,none⟩ (I O 0)).setCell ⟨w.heap.size,1,none⟩ (I O 0)).setCell ⟨w.heap.size,2,none⟩ (I O 0)) w.heap.size #[I O 0,I O 0,I O 0] 76 from((R5.out.set 0 _).set 1 _).set 2 _);have t0:=R5.out.cell 0;have t0f:=R5.out.fr 0;have t1:=R5.out.cell 1;have t1f:=R5.out.fr 1;have t2:=R5.out.cell 2;have t2f:=R5.out.fr 2
    go_wp2
    generalize ((w5.setCell ⟨w.heap.size,0,none⟩ (I O 0)).setCell ⟨w.heap.size,1,none⟩ (I O 0)).setCell ⟨w.heap.size,2,none⟩ (I O 0)=wf at *;clear t0 t1 t2 t0f t1f t2f;have c0:=FINR.out.cell 0;have c1:=FINR.out.cell 1;have c2:=FINR.out.cell 2;simp only[List.getElem?_toArray,List.getElem?_cons_zero,List.getElem?_cons_succ]at c0 c1 c2;exact bodyPost_ret (v := .tuple #[.agg #[I O 0,I O 0,I O 0],.bool false]) (by simp[results,Tryz.results76,go_sem,c0,c1,c2]) rfl (RrsG.no HN.out FINB.out)
  ·obtain⟨hj,rfl⟩:=hgo
   have hji:(j:Int)<7:=by omega
   obtain⟨y,ey⟩:∃y,kws[j]'(by show j<7;exact hj)=y:=⟨_,rfl⟩;have KS:=mh (show kf k j=if k.data.toList=y.data.toList then (j:Int) else kf k (j+1) from by rw[← ey];exact kf_step (by show j<7;exact hj))
   have YC:=mh (fun (W:World) (g:Nat) (hW:Blk W g #[.string ⟨#[]⟩,.string ⟨#[100,117,101]⟩,.string ⟨#[115,101,97,115,111,110]⟩,.string ⟨#[114,101,102,117,115,101,100]⟩,.string ⟨#[110,111,116,104,105,110,103]⟩,.string ⟨#[99,114,111,112]⟩,.string ⟨#[97,114,101,97]⟩] 9)=>show W.cell? ⟨g,j,none⟩=some (.string y) from by
    rw[hW.cell j,← ey]
    match j,hj with
    | 0,_=>rfl
    | 1,_=>rfl
    | 2,_=>rfl
    | 3,_=>rfl
    | 4,_=>rfl
    | 5,_=>rfl
    | 6,_=>rfl)
   clear ey;obtain⟨z,ez⟩:∃z,decide (k.data.toList=y.data.toList)=z:=⟨_,rfl⟩;have EZ:=mh ez;have hky:(k.toList==y.toList)=z:=by rw[tlb_eq];exact ez
   clear ez
   go_upto_region 7 with (first|(go_at_call 40;(with_reducible refine cmo (refwords35_any _) ?_);rintro e w5 ⟨rfl,hw5⟩;have HB5:=mh (show Below w2.heap.size w2 w5 from HBr.out.trans (hw5▸((brf _ _).alloc HBr.out.size _)));have g5:=((show Below wr.heap.size wr w5 from hw5▸((brf _ _).alloc mle _)).cell (p:=⟨B,Ox+3,none⟩) hBl4).trans g4;have hBl5:B<w5.heap.size:=nll hBl2 HB5.out.size;clear hw5 g4 hBl4)|fail)
   have g5d:w5.drew.cell? ⟨B,Ox+3,none⟩=some (.string k):=g5;refine wp_region_held_drew (S:=fun w' => w'.cell? ⟨B,Ox+3,none⟩=some (.string k)) (by kernel_rfl) g5d (fun hHeld=>?_);refine tkD 0 26 ?_ (hS:=hHeld);refine tkD 1 27 ?_ (hS:=hHeld);refine tkD 2 28 ?_ (hS:=hHeld);refine tkD 4 30 ?_ (hS:=hHeld);refine rdA 3 29 (fun K hK=>?_);go_simp;(with_reducible refine cmo (refwords35_any _) ?_);rintro e w7 ⟨rfl,hw7⟩;have hb7:Below w5.heap.size w5 w7:=hw7▸((brf _ _).drew.alloc mle _);have g7:=(hb7.cell (p:=⟨B,Ox+3,none⟩) hBl5).trans g5;have y7:=YC.out w7 w5.heap.size (hw7▸Blk.new w5.drew #[.string ⟨#[]⟩,.string ⟨#[100,117,101]⟩,.string ⟨#[115,101,97,115,111,110]⟩,.string ⟨#[114,101,102,117,115,101,100]⟩,.string ⟨#[110,111,116,104,105,110,103]⟩,.string ⟨#[99,114,111,112]⟩,.string ⟨#[97,114,101,97]⟩] 9);have hl7:w5.heap.size<w7.heap.size:=World.block_lt_of_cell? _ _ y7;have HB7:=mh (show Below w2.heap.size w2 w7 from HB5.out.trans (hb7.mono HB5.out.size));clear hw7 hb7
   go_wp2_with fail
   refine hK.out _ _ g7 (fun hHeld2=>?_)
   clear hK K
   (try dsimp only[Act.put])
   try simp only[mnA,mnB,mnC]
   refine tkA 5 31 ?_ (hS:=hHeld2)
   simp only[Act.put,mnA,mnB,mnC];refine rdA 6 32 (fun K hK=>?_);go_simp;refine hK.out _ _ g7 (fun hHeld3=>?_);clear hK K
   (try dsimp only[Act.put])
   try simp only[mnA,mnB,mnC]
   refine tkA 7 33 ?_ (hS:=hHeld3)
   simp only[Act.put,mnA,mnB,mnC];refine wpAnyH_done (by kernel_rfl) ?_ _;clear hHeld hHeld2 hHeld3
   cases z
   ·have HNX:=mh (show kf k (j+1)=kf k 1 from by have h1:=KS.out;rw[if_neg (of_decide_eq_false EZ.out)]at h1;rw[← h1];exact HKF.out)
    go_wp2
    go_roundw
    case rel=>exact⟨j+1,by omega,by omega,by go_num,HNX.out,HB7.out⟩
    case measure=>simp[intOf];omega
   ·have HKJ:=mh (show(j:Int)=kindI k.data.toList from by
     have h1:=KS.out;rw[if_pos (of_decide_eq_true EZ.out)]at h1;have h2:=HKF.out;have h3:=KK.out.2 (by omega)
     omega)
    obtain⟨b2,off2,cc,rfl,hwb,hbl,hcn⟩:=HG.out _ (by first|rfl|trivial) v1 w2 (fun _=>HO1.out (by first|rfl|trivial));have e0:=hcn 0 (by omega);have e1:=hcn 1 (by omega);rw[Nat.add_zero]at e0;have e0:=(HB7.out.cell (p:=⟨b2,off2,none⟩) hbl).trans e0;have e1:=(HB7.out.cell (p:=⟨b2,off2+1,none⟩) hbl).trans e1;obtain⟨x0,ex0⟩:∃z,nvs (tl [a,b]) 0=z:=⟨_,rfl⟩;obtain⟨x1,ex1⟩:∃z,nvs (tl [a,b]) 1=z:=⟨_,rfl⟩;rw[ex0]at e0;rw[ex1]at e1;have EX:=mh (And.intro ex0 ex1);have hne:b2≠w.heap.size:=by have h1:=R0.out.lt;omega
    have hbl7:b2<w7.heap.size:=nll hbl HB7.out.size;have R7:=mh (R2.out.below HB7.out);have t0:=R7.out.cell 0;have t0f:=R7.out.fr 0;have t1:=R7.out.cell 1;have t1f:=R7.out.fr 1;have t2:=R7.out.cell 2;have t2f:=R7.out.fr 2;have HQ:=mh (show rsnB (tl [a,b,k])=true from by rw[HRB.out,← HKJ.out,dqt (by omega)];rfl);clear hcn ex0 ex1 y7 hl7 g7 g5 hBl5 hky
    go_wp2_with fail
    go_region
    go_wp2
    have FINB:=mh (show Below w.heap.size w (((w7.setCell ⟨w.heap.size,0,none⟩ (I O x0)).setCell ⟨w.heap.size,1,none⟩ (I O x1)).setCell ⟨w.heap.size,2,none⟩ (I O (j:Int))).drew from((((HB2.out.trans (HB7.out.mono HB2.out.size)).setCell (p:=⟨w.heap.size,0,none⟩) mle _).setCell (p:=⟨w.heap.size,1,none⟩) mle _).setCell (p:=⟨w.heap.size,2,none⟩) mle _).drew);have FINR:=mh (show Blk (((w7.setCell ⟨w.heap.size,0,none⟩ (I O x0)).setCell ⟨w.heap.size,1,none⟩ (I O x1)).setCell ⟨w.heap.size,2,none⟩ (I O (j:Int))).drew w.heap.size #[I O x0,I O x1,I O (j:Int)] 76 from((R7.out.set 0 _).set 1 _).set 2 _);generalize (((w7.setCell ⟨w.heap.size,0,none⟩ (I O x0)).setCell ⟨w.heap.size,1,none⟩ (I O x1)).setCell ⟨w.heap.size,2,none⟩ (I O (j:Int))).drew=wf at *;clear t0 t1 t2 t0f t1f t2f;have c0:=FINR.out.cell 0;have c1:=FINR.out.cell 1;have c2:=FINR.out.cell 2;simp only[List.getElem?_toArray,List.getElem?_cons_zero,List.getElem?_cons_succ]at c0 c1 c2;exact bodyPost_ret (v := .tuple #[.agg #[I O x0,I O x1,I O (j:Int)],.bool true]) (by simp[results,Tryz.results76,go_sem,c0,c1,c2]) rfl ⟨x0,x1,(j:Int),by rw[HQ.out],(fun _=>⟨EX.out.1.symm,EX.out.2.symm,HKJ.out⟩),FINB.out⟩
end Go.Proofs.YtljibgchickcpaaGreatDoor
