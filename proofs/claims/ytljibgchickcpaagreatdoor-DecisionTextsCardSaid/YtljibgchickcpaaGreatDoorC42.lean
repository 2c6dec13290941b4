/- Packed. -/
import Derived.Test.YtljibgchickcpaaGreatDoorC39
import Derived.Test.YtljibgchickcpaaGreatDoorC41
set_option maxRecDepth 100000
set_option maxHeartbeats 8000000
open Go.Value renaming int → I
open Go.IntKind renaming i64 → O
namespace Go.Proofs.YtljibgchickcpaaGreatDoor
open Go.RowKit Sc As Dn
structure PrB (w W:World) (b0:Nat) (dc:Array Value):Prop where
 bd:Blk W b0 dc 26
 low:Below w.heap.size w W
 e:w.heap.size=b0
theorem PrB.below {w W W' : World}{b0:Nat}{dc:Array Value}(h:PrB w W b0 dc)(hb:Below W.heap.size W W'):PrB w W' b0 dc:=⟨h.bd.below hb,h.low.trans (hb.mono h.low.size),h.e⟩
theorem nums35_call (W:World)(L:List Int)(cs:Array Value)(n:Nat)(hcs:(SI.flat L).toArray=cs)(hn:L.length=n)(hL:In64 L)(h8:n≤8)(hE:Env W) :
  Calls Tryz.prog 39 #[.slice (some ⟨W.heap.size,0,none⟩) n n] (W.alloc (.cells cs 3)) fun e w' => e = .returned (.string (bs (nums L)))∧Below (W.alloc (.cells cs 3)).heap.size (W.alloc (.cells cs 3)) w' :=by
 subst hcs hn;exact refnums35_any _ L L.length _ (Recs.lit (S:=SI) W 3 L (by unfold maxLen;omega)).ints (hE.below ((brf _ _).alloc mle _)) hL h8
theorem nums35_drew (W:World)(L:List Int)(cs:Array Value)(n:Nat)(hcs:(SI.flat L).toArray=cs)(hn:L.length=n)(hL:In64 L)(h8:n≤8)(hE:Env W) :
  Calls Tryz.prog 39 #[.slice (some ⟨W.heap.size,0,none⟩) n n] (W.alloc (.cells cs 3)).drew fun e w' => e = .returned (.string (bs (nums L)))∧Below (W.alloc (.cells cs 3)).drew.heap.size (W.alloc (.cells cs 3)).drew w' :=by
 subst hcs hn;exact refnums35_any _ L L.length _ ((Recs.lit (S:=SI) W 3 L (by unfold maxLen;omega)).below (brf _ _).drew).ints ((hE.below ((brf _ _).alloc mle _)).drew) hL h8
theorem nums_sz {L:List Int}(h:In64 L)(h8:L.length≤8):(bs (nums L)).size≤168:=by
 rw[bs_size];have:=nums_len h;omega
theorem refprint35_any (r:RD)(D:Dec)(w:World)(h:DV w r D)(hE:Env w):Calls Tryz.prog 20 #[.agg (dCells r).toArray] w (PrG D w):=by
 have HV:=mh h;have HE:=mh hE;have e1:=h.year;have e2:=h.farm;have e3:=h.ver;have e4:=h.an;have e5:=h.rn;have hlen:=h.rs.len;have hlen2:=h.aw.len;clear h hE;obtain⟨yy,ff,vv,ap,an,ac,rp,rn,rc⟩:=r;simp only at e1 e2 e3 e4 e5;subst e1 e2 e3 e4 e5;have HB0:=mh (show Below w.heap.size w (w.alloc (.cells #[I O D.year,I O D.farm,I O D.ver,.slice ap D.aw.length ac,.slice rp D.rs.length rc] 26)) from balloc mle (brf _ _) _);have BD0:=mh (Blk.new w #[I O D.year,I O D.farm,I O D.ver,.slice ap D.aw.length ac,.slice rp D.rs.length rc] 26);have CK:=mh (refcheck35_any ⟨D.year,D.farm,D.ver,ap,D.aw.length,ac,rp,D.rs.length,rc⟩ D (w.alloc (.cells #[I O D.year,I O D.farm,I O D.ver,.slice ap D.aw.length ac,.slice rp D.rs.length rc] 26)) (HV.out.below HB0.out));simp only[dCells]at CK ⊢;unfold IntG at CK;obtain⟨c,ec⟩:∃c,Dn.chk D=c:=⟨_,rfl⟩;rw[ec]at CK;have EC:=mh ec;clear ec
 by_cases hc:c=0
 rotate_left
 ·have hne:(c != 0)=true:=by simpa using hc
  have HNE:=mh hc;clear hc
  go_enter Tryz.func20,Tryz.ntmps20
  go_wp2_with (go_at_call 12;(with_reducible refine cmo CK.out ?_);rintro e w1 ⟨rfl,hb1⟩;have HB1:=mh (bstep mle HB0.out hb1);clear hb1)
  go_ret2
  exact PrG.bad EC.out HNE.out HB1.out
 subst hc;have OK:=mh (ok_of EC.out);have NE0:((0:Int) != 0)=false:=by decide
 obtain⟨b0,eb0⟩:∃n,w.heap.size=n:=⟨_,rfl⟩
 go_enter Tryz.func20,Tryz.ntmps20
 go_upto_region 4 with (first|(go_at_call 12;(with_reducible refine cmo CK.out ?_);rintro e w1 ⟨rfl,hb1⟩;have P1:=mh (show PrB w w1 b0 #[I O D.year,I O D.farm,I O D.ver,.slice ap D.aw.length ac,.slice rp D.rs.length rc] from eb0▸⟨BD0.out.below hb1,bstep mle HB0.out hb1,rfl⟩);clear hb1)|fail)
 try rw[eb0]
 clear CK HB0 BD0 eb0;have LH:=mh (nums35_call w1 [D.year,D.farm,D.ver] #[I O D.year,I O D.farm,I O D.ver] 3 rfl rfl OK.out.head (by decide) (HE.out.below P1.out.low));have PA:=mh (P1.out.below ((brf w1.heap.size w1).alloc mle (.cells #[I O D.year,I O D.farm,I O D.ver] 3)));obtain⟨N,eN⟩:∃S,bs (nums [D.year,D.farm,D.ver])=S:=⟨_,rfl⟩;have hNs:N.size≤168:=by rw[← eN];exact nums_sz OK.out.head (by simp)
 have ET:=mh (show((⟨#[100,101,99,105,115,105,111,110]⟩:ByteArray)++N)++⟨#[10]⟩=bs (textA D 0) from by
  rw[textA_zero,← eN];refine ba_ext ?_;simp only[bs_list,ByteArray.data_append,Array.toList_append]
  rfl)
 rw[eN]at LH;have hs1:((⟨#[100,101,99,105,115,105,111,110]⟩:ByteArray)++N).size≤176:=by rw[ByteArray.size_append];have:((⟨#[100,101,99,105,115,105,111,110]⟩:ByteArray)).size=8:=rfl;omega
 have c0:=P1.out.bd.cell 0;have c1:=P1.out.bd.cell 1;have c2:=P1.out.bd.cell 2;clear eN
 go_upto_region 5 with (first|(go_at_call 39;(with_reducible refine cmo LH.out ?_);rintro e w2 ⟨rfl,hb2⟩;have P2:=mh (PA.out.below hb2);clear hb2)|fail)
 clear c0 c1 c2 hs1 hNs
 go_upto_region 6 with fail
 go_loopw [5,6] (fun v iv W=>∃(k:Nat) (T:ByteArray),k≤D.aw.length∧iv=I O (k:Int)∧v = .string T∧T=bs (textA D k)∧PrB w W b0 #[I O D.year,I O D.farm,I O D.ver,.slice ap D.aw.length ac,.slice rp D.rs.length rc]) (fun _ iv _=>D.aw.length - (intOf iv).toNat)
 case atStart=>exact⟨0,_,Nat.zero_le _,rfl,rfl,ET.out,P2.out⟩
 case round =>
  clear P1 P2 PA LH ET;obtain⟨wo,rfl⟩:∃wo:World,wo=wr:=⟨_,rfl⟩;obtain⟨k,T,hk,rfl,rfl,hT,hP⟩:=hrel;have PR:=mh hP;have HT:=mh hT;have hTs:T.size≤14300:=by rw[hT,bs_size];exact OK.out.textA k
  have q3:=hP.bd.cell 3;clear hP hT;have hk0:(0:Int)≤(k:Int):=inn _
  by_cases hlt:k<D.aw.length
  ·have hk1:(k:Int)<(D.aw.length:Int):=by omega
   obtain⟨b,off,e,hbl,cc⟩:=SA_at (HV.out.aw.below PR.out.low) hlt;simp only at e;subst e;obtain⟨d0,d1,d2,d3,d4,d5,d6,d7,d8⟩:=cc;have N64:=OK.out.awN (List.getElem_mem hlt);have TX:=textA_succ hlt;obtain⟨⟨x0,x1,x2,x3,x4,x5,x6,x7,x8⟩,ex⟩:∃x,D.aw[k]=x:=⟨_,rfl⟩;rw[ex]at d0 d1 d2 d3 d4 d5 d6 d7 d8 N64 TX;simp only at d0 d1 d2 d3 d4 d5 d6 d7 d8;have ha:=(brf wo.heap.size wo).alloc mle (.cells #[I O x0,I O x1,I O x2,I O x3,I O x4,I O x5,I O x6,I O x7,I O x8] 78);have P4:=mh (PR.out.below ha);have A4:=mh (Blk.new wo #[I O x0,I O x1,I O x2,I O x3,I O x4,I O x5,I O x6,I O x7,I O x8] 78);clear ex ha hbl
   go_upto_region 9 with fail
   obtain⟨rb,erb⟩:∃n,wo.heap.size=n:=⟨_,rfl⟩;rw[erb]at A4 ⊢;generalize wo.alloc (.cells #[I O x0,I O x1,I O x2,I O x3,I O x4,I O x5,I O x6,I O x7,I O x8] 78)=w4 at *;clear d0 d1 d2 d3 d4 d5 d6 d7 d8 erb PR q3;have LC:=mh (nums35_call w4 [x1,x2,x3,x4,x5,x6,x7,x8] #[I O x1,I O x2,I O x3,I O x4,I O x5,I O x6,I O x7,I O x8] 8 rfl rfl N64 (by decide) (HE.out.below P4.out.low));have PA:=mh (P4.out.below ((brf w4.heap.size w4).alloc mle (.cells #[I O x1,I O x2,I O x3,I O x4,I O x5,I O x6,I O x7,I O x8] 3)));have x_0:=A4.out.cell 0;have x_1:=A4.out.cell 1;have x_2:=A4.out.cell 2;have x_3:=A4.out.cell 3;have x_4:=A4.out.cell 4;have x_5:=A4.out.cell 5;have x_6:=A4.out.cell 6;have x_7:=A4.out.cell 7;have x_8:=A4.out.cell 8;obtain⟨N,eN⟩:∃S,bs (nums [x1,x2,x3,x4,x5,x6,x7,x8])=S:=⟨_,rfl⟩;have hNs:N.size≤168:=by rw[← eN];exact nums_sz N64 (by simp)
   have NX:=mh (show T++(((⟨#[97,119,97,114,100]⟩:ByteArray)++N)++⟨#[10]⟩)=bs (textA D (k+1)) from by
    rw[TX,HT.out,← eN];refine ba_ext ?_;simp only[bs_list,ByteArray.data_append,Array.toList_append]
    rfl)
   rw[eN]at LC;have hs1:((⟨#[97,119,97,114,100]⟩:ByteArray)++N).size≤173:=by rw[ByteArray.size_append];have:((⟨#[97,119,97,114,100]⟩:ByteArray)).size=5:=rfl;omega
   have hs2:(((⟨#[97,119,97,114,100]⟩:ByteArray)++N)++(⟨#[10]⟩:ByteArray)).size≤174:=by rw[ByteArray.size_append];have:((⟨#[10]⟩:ByteArray)).size=1:=rfl;omega
   clear N64 eN TX
   go_wp2_with (go_at_call 39;(with_reducible refine cmo LC.out ?_);rintro e w5 ⟨rfl,hb5⟩;have P5:=mh (PA.out.below hb5);clear hb5)
   go_roundw
   case rel=>exact⟨k+1,_,by omega,by go_num,rfl,NX.out,P5.out⟩
   case measure=>simp[intOf];omega
  ·obtain rfl:k=D.aw.length:=by omega
   have HT:=mh (show T=bs (textR D 0) from by rw[← textA_all];exact HT.out)
   go_upto_region 11 with fail
   clear q3 hTs hk hlt hk0
   go_loopw [5,8] (fun v iv W=>∃(k:Nat) (T:ByteArray),k≤D.rs.length∧iv=I O (k:Int)∧v = .string T∧T=bs (textR D k)∧PrB w W b0 #[I O D.year,I O D.farm,I O D.ver,.slice ap D.aw.length ac,.slice rp D.rs.length rc]) (fun _ iv _=>D.rs.length - (intOf iv).toNat)
   case atStart=>exact⟨0,_,Nat.zero_le _,rfl,rfl,HT.out,PR.out⟩
   case round =>
    clear PR HT;obtain⟨wo,rfl⟩:∃wo:World,wo=wr:=⟨_,rfl⟩;obtain⟨k,T,hk,rfl,rfl,hT,hP⟩:=hrel;have PR:=mh hP;have HT:=mh hT;have hTs:T.size≤14300:=by rw[hT,bs_size];exact OK.out.textR k
    have q4:=hP.bd.cell 4;clear hP hT;have hk0:(0:Int)≤(k:Int):=inn _
    by_cases hlt:k<D.rs.length
    ·have hk1:(k:Int)<(D.rs.length:Int):=by omega
     obtain⟨b,off,e,hbl,d0,d1,d2⟩:=SRn_at (HV.out.rs) hlt;simp only at e;subst e;have N64:=OK.out.rsN (List.getElem_mem hlt);have RB:=OK.out.rs _ (List.getElem_mem hlt);have TX:=textR_succ hlt;obtain⟨⟨y0,y1,y2⟩,ex⟩:∃x,D.rs[k]=x:=⟨_,rfl⟩;rw[ex]at d0 d1 d2 N64 TX RB;simp only at d0 d1 d2 RB;obtain⟨kn,rfl⟩:∃n:Nat,y2=(n:Int):=⟨y2.toNat,by omega⟩;have hkn:kn<7:=by omega
     have hki:(kn:Int)<7:=by omega
     have hkn0:(0:Int)≤(kn:Int):=inn _;have PD:=mh (PR.out.below (brf _ _).drew);have BA:=mh (show Below wo.heap.size wo (wo.alloc (.cells #[I O y0,I O y1] 3)).drew from((brf wo.heap.size wo).alloc mle (.cells #[I O y0,I O y1] 3)).drew);have PA:=mh (PR.out.below BA.out);have PB0:=mh (PR.out)
     have KS:=mh (fun (W:World) (h:Below w.heap.size w W)=>show W.cell? ⟨b,off+k*3,none⟩=some (I O y0)∧W.cell? ⟨b,off+k*3+1,none⟩=some (I O y1)∧W.cell? ⟨b,off+k*3+2,none⟩=some (I O (kn:Int)) from
      ⟨(h.cell (p:=⟨b,off+k*3,none⟩) hbl).trans d0,(h.cell (p:=⟨b,off+k*3+1,none⟩) hbl).trans d1,(h.cell (p:=⟨b,off+k*3+2,none⟩) hbl).trans d2⟩)
     have KP:=mh (fun (W:World) (h:PrB w W b0 #[I O D.year,I O D.farm,I O D.ver,.slice ap D.aw.length ac,.slice (some ⟨b,off,none⟩) D.rs.length rc])=>show W.cell? ⟨b0,4,none⟩=some (.slice (some ⟨b,off,none⟩) D.rs.length rc)∧W.cell? ⟨b,off+k*3,none⟩=some (I O y0)∧W.cell? ⟨b,off+k*3+1,none⟩=some (I O y1)∧W.cell? ⟨b,off+k*3+2,none⟩=some (I O (kn:Int)) from⟨h.bd.cell 4,KS.out W h.low⟩);have KD:=mh (KP.out _ PD.out);have LNC:=mh (nums35_drew wo [y0,y1] #[I O y0,I O y1] 2 rfl rfl N64 (by decide) (HE.out.below PR.out.low));obtain⟨N,eN⟩:∃S,bs (nums [y0,y1])=S:=⟨_,rfl⟩;have hNs:N.size≤168:=by rw[← eN];exact nums_sz N64 (by simp)
     obtain⟨KS_,eKS⟩:∃S,bs (kindL (kn:Int))=S:=⟨_,rfl⟩;have hKs:KS_.size≤7:=by rw[← eKS,bs_size];exact kindL_len _
     have HKC:=mh (fun (W:World)=>show(W.alloc (.cells #[.string ⟨#[]⟩,.string ⟨#[100,117,101]⟩,.string ⟨#[115,101,97,115,111,110]⟩,.string ⟨#[114,101,102,117,115,101,100]⟩,.string ⟨#[110,111,116,104,105,110,103]⟩,.string ⟨#[99,114,111,112]⟩,.string ⟨#[97,114,101,97]⟩] 9)).cell? ⟨W.heap.size,kn,none⟩=some (.string KS_) from by
      rw[← eKS,cwn];have h7:kn=0∨kn=1∨kn=2∨kn=3∨kn=4∨kn=5∨kn=6:=by omega
      rcases h7 with rfl|rfl|rfl|rfl|rfl|rfl|rfl<;>rfl)
     have NX:=mh (show T++(((((⟨#[114,101,97,115,111,110]⟩:ByteArray)++N)++⟨#[32]⟩)++KS_)++⟨#[10]⟩)=bs (textR D (k+1)) from by
      rw[TX,HT.out,← eN,← eKS];unfold rsL lineT;refine ba_ext ?_;simp only[bs_list,ByteArray.data_append,Array.toList_append]
      simp[wReason])
     rw[eN]at LNC;have hs1:¬9223372036854775807<6+N.size:=by omega
     have hs2:¬9223372036854775807<6+N.size+1:=by omega
     have hs3:¬9223372036854775807<6+N.size+1+KS_.size:=by omega
     have hs4:¬9223372036854775807<6+N.size+1+KS_.size+1:=by omega
     have hs5:¬9223372036854775807<T.size+(6+N.size+1+KS_.size+1):=by omega
     clear d0 d1 d2 hbl ex N64 RB TX eN eKS
     go_wp2_with fail
     clear q4;refine wp_region_held_drew (S:=fun w' => w'.cell? ⟨b0,4,none⟩=some (.slice (some ⟨b,off,none⟩) D.rs.length rc)∧w'.cell? ⟨b,off+k*3,none⟩=some (I O y0)∧w'.cell? ⟨b,off+k*3+1,none⟩=some (I O y1)∧w'.cell? ⟨b,off+k*3+2,none⟩=some (I O (kn:Int))) (by kernel_rfl) KD.out (fun hHeld=>?_);refine tkD 0 65 ?_;refine tkD 1 66 ?_;refine tkD 2 67 ?_;refine tkD 3 68 ?_;refine tkD 4 69 ?_;refine tkD 5 70 ?_;refine tkD 6 71 ?_;refine tkD 7 72 ?_;refine tkD 8 73 ?_;refine tkD 9 74 ?_;refine tkD 10 75 ?_;refine tkD 11 76 ?_;refine tkD 12 77 ?_;refine tkD 18 83 ?_;refine tkD 19 84 ?_;refine tkD 20 85 ?_;refine tkD 21 86 ?_;refine tkD 22 87 ?_;refine tkD 23 88 ?_;refine rdA 13 78 (fun K hK=>?_);go_simp;refine hK.out _ _ (KP.out _ PA.out) (fun hHeld2=>?_);clear hK K
     (try dsimp only[Act.put])
     try simp only[mnA,mnB,mnC]
     refine rdA 14 79 (fun K hK=>?_)
     go_simp
     (with_reducible refine cmo LNC.out ?_);rintro e v6 ⟨rfl,hb6⟩;have P6:=mh (PA.out.below hb6);clear hb6
     go_wp2_with fail
     refine hK.out _ _ (KP.out _ P6.out) (fun hHeld2=>?_)
     clear hK K
     (try dsimp only[Act.put])
     try simp only[mnA,mnB,mnC]
     refine tkA 15 80 ?_
     simp only[Act.put,mnA,mnB,mnC];refine tkD 16 81 ?_;refine rdA 17 82 (fun K hK=>?_);go_simp;(with_reducible refine cmo (refwords35_any _) ?_);rintro e v8 ⟨rfl,hw8⟩;have P8:=mh (show PrB w v8 b0 #[I O D.year,I O D.farm,I O D.ver,.slice ap D.aw.length ac,.slice (some ⟨b,off,none⟩) D.rs.length rc] from hw8▸P6.out.below ((brf _ _).alloc mle _));have KC:=mh (show v8.cell? ⟨v6.heap.size,kn,none⟩=some (.string KS_) from by rw[← hw8];exact HKC.out v6);clear hw8
     go_wp2_with fail
     refine hK.out _ _ (KP.out _ P8.out) (fun hHeld2=>?_)
     clear hK K
     (try dsimp only[Act.put])
     try simp only[mnA,mnB,mnC]
     refine tkA 24 89 ?_
     simp only[Act.put,mnA,mnB,mnC];refine rdA 25 90 (fun K hK=>?_);have kc:=KC.out;go_simp;refine hK.out _ _ (KP.out _ P8.out) (fun hHeld2=>?_);clear hK K kc
     (try dsimp only[Act.put])
     try simp only[mnA,mnB,mnC]
     refine tkA 26 91 ?_
     simp only[Act.put,mnA,mnB,mnC];refine tkD 27 92 ?_;refine tkD 28 93 ?_;refine tkD 29 5 ?_;refine wpAnyH_done (by kernel_rfl) ?_ _
     go_wp2_with fail
     go_roundw
     case rel=>exact⟨k+1,_,by omega,by go_num,rfl,NX.out,P8.out⟩
     case measure=>simp[intOf];omega
    ·obtain rfl:k=D.rs.length:=by omega
     have q0:=PR.out.bd.cell 0;have q1:=PR.out.bd.cell 1;have q2:=PR.out.bd.cell 2;have q3:=PR.out.bd.cell 3;have TC:=mh (reftotal35_any ⟨D.year,D.farm,D.ver,ap,D.aw.length,ac,rp,D.rs.length,rc⟩ D wo (HV.out.below PR.out.low));simp only[dCells]at TC;unfold IntG at TC;have T64:=tot64 D.aw;have TX:=textR_all D;have ETL:=mh (show totL D=lineT wTotal [totW D.aw] from rfl);obtain⟨tt,ett⟩:∃t,totW D.aw=t:=⟨_,rfl⟩;rw[ett]at TC T64 ETL;have LC:=mh (fun (W:World) (hb:Below wo.heap.size wo W)=>nums35_call W [tt] #[I O tt] 1 rfl rfl T64 (by decide) (HE.out.below (PR.out.below hb).low));obtain⟨N,eN⟩:∃S,bs (nums [tt])=S:=⟨_,rfl⟩;have hNs:N.size≤168:=by rw[← eN];exact nums_sz T64 (by simp)
     have FIN:=mh (show((T++⟨#[116,111,116,97,108]⟩)++N)++⟨#[10]⟩=bs (textL D) from by
      rw[TX,ETL.out,HT.out,← eN];unfold lineT;refine ba_ext ?_;simp only[bs_list,ByteArray.data_append,Array.toList_append]
      simp[wTotal])
     rw[eN]at LC;have hs1:(T++(⟨#[116,111,116,97,108]⟩:ByteArray)).size≤14305:=by rw[ByteArray.size_append];have:((⟨#[116,111,116,97,108]⟩:ByteArray)).size=5:=rfl;omega
     have hs2:((T++(⟨#[116,111,116,97,108]⟩:ByteArray))++N).size≤14473:=by rw[ByteArray.size_append];omega
     clear ett eN T64 TX hk hlt hk0
     go_wp2_with (first|(go_at_call 14;(with_reducible refine cmo TC.out ?_);rintro e w5 ⟨rfl,hb5⟩;have P5:=mh (PR.out.below hb5);have LC5:=mh (LC.out w5 hb5);have P6:=mh (P5.out.below ((brf w5.heap.size w5).alloc mle (.cells #[I O tt] 3)));clear hb5)|(go_at_call 39;(with_reducible refine cmo LC5.out ?_);rintro e w7 ⟨rfl,hb7⟩;have P7:=mh (P6.out.below hb7);clear hb7)|fail)
     go_ret2
     exact PrG.ok EC.out P7.out.low FIN.out
end Go.Proofs.YtljibgchickcpaaGreatDoor
namespace Go.Proofs.YtljibgchickcpaaGreatDoor
open Go.RowKit Sc As Dn

theorem lit10 {K : Act → World → Prop} {a : Act} {wy : World} {e0 e1 e2 e3 e4 e5 e6 e7 e8 e9 : ByteArray} {T : TypeId} (h0 : e0.size ≤ 29100) (h1 : e1.size ≤ 29100) (h2 : e2.size ≤ 29100) (h3 : e3.size ≤ 29100) (h4 : e4.size ≤ 29100) (h5 : e5.size ≤ 29100) (h6 : e6.size ≤ 29100) (h7 : e7.size ≤ 29100) (h8 : e8.size ≤ 29100) (h9 : e9.size ≤ 29100)
    (k : ∀ wl XS, XS.length = 10 → (∀ y ∈ XS, y.size ≤ 29100) → Below wy.heap.size wy wl → Recs SB wl (some ⟨wy.heap.size, 0, none⟩) XS → K a wl) : K a (wy.alloc (.cells #[.string e0, .string e1, .string e2, .string e3, .string e4, .string e5, .string e6, .string e7, .string e8, .string e9] T)).drew := by
  have hR : Recs SB (wy.alloc (.cells #[.string e0, .string e1, .string e2, .string e3, .string e4, .string e5, .string e6, .string e7, .string e8, .string e9] T)) (some ⟨wy.heap.size, 0, none⟩) [e0, e1, e2, e3, e4, e5, e6, e7, e8, e9] := Recs.lit (S := SB) wy T [e0, e1, e2, e3, e4, e5, e6, e7, e8, e9] (by show 10 ≤ _; unfold maxLen; omega)
  refine k _ [e0, e1, e2, e3, e4, e5, e6, e7, e8, e9] rfl (fun y hy => ?_) ((Below.refl _ _).alloc (Nat.le_refl _) _).drew (hR.below (Below.refl _ _).drew)
  simp only [List.mem_cons, List.not_mem_nil, or_false] at hy
  rcases hy with rfl | rfl | rfl | rfl | rfl | rfl | rfl | rfl | rfl | rfl <;> assumption

set_option maxRecDepth 100000 in
set_option maxHeartbeats 8000000 in
theorem decisionTexts_walk (p : Option Addr) (len cap : Nat) (z : List Int) (raw : ByteArray) (x y u : Int) (w : World) (hp : IsRow .i64 w p len cap z) (_hs : raw.size ≤ maxLen) (wx : (Lit.int .i64 x).wf = true) (wy : (Lit.int .i64 y).wf = true) (wu : (Lit.int .u8 u).wf = true) (hE : Env w) :
    Calls Tryz.prog 4 #[.slice p len cap, .string raw, .int .i64 x, .int .i64 y, .int .u8 u] w (BoolG true w) := by
  obtain ⟨x0, x1⟩ := bd_i64 wx
  obtain ⟨y0, y1⟩ := bd_i64 wy
  obtain ⟨u0, u1⟩ := bd_u8 wu
  have AW := Lib.hid (fun (W : World) (hW : Below w.heap.size w W) => awake35_any W (hE.below hW))
  unfold BoolG at AW
  by_cases hlong : 500 < raw.size
  · have hl : (500 : Int) < (raw.size : Int) := by omega
    have AE := Lib.hid (AW.out w (Below.refl _ _))
    clear hlong
    go_enter Tryz.func4, Tryz.ntmps4
    go_wp2_with (first | (go_at_call 6; (with_reducible refine Calls.mono AE.out ?_); rintro e wz ⟨rfl, hbz⟩) | fail)
    go_ret
    exact ⟨rfl, hbz⟩
  have hl : ¬ (500 : Int) < (raw.size : Int) := by omega
  have hraw : raw.size ≤ 500 := by omega
  have NW := Lib.hid (new_any p len cap z w hp)
  have HE := Lib.hid hE
  clear hE hp wx wy wu hlong
  obtain ⟨l, el⟩ : ∃ l, (z.take len).take 400 = l := ⟨_, rfl⟩
  rw [el] at NW
  clear el
  go_enter Tryz.func4, Tryz.ntmps4
  go_upto_region 4 with (first | (go_at_call 7; (with_reducible refine Calls.mono NW.out ?_); rintro e w1 ⟨rfl, ht1, hb1⟩; have T1 := Lib.hid ht1; have HB1 := Lib.hid hb1; clear ht1 hb1) | fail)
  have SPC := Lib.hid (spoilt35_any w.heap.size l 0 x w1 T1.out)
  unfold SpG dCells at SPC
  go_upto_region 5 with (first | (go_at_call 9; (with_reducible refine Calls.mono SPC.out ?_); rintro e w2 ⟨r, D, q, rfl, hO2, hT2⟩; have HO2 := Lib.hid hO2; have HT2 := Lib.hid hT2.tape; have HB2 := Lib.hid (show Below w.heap.size w w2 from HB1.out.trans (hT2.but.below (Nat.le_refl _) HB1.out.size)); clear hO2 hT2) | fail)
  have RX := Lib.hid (Blk.new w2 #[.int .i64 r.year, .int .i64 r.farm, .int .i64 r.ver, .slice r.ap r.an r.ac, .slice r.rp r.rn r.rc] 26)
  have Ag := Lib.hid (show Below w2.heap.size w2 (w2.alloc (.cells #[.int .i64 r.year, .int .i64 r.farm, .int .i64 r.ver, .slice r.ap r.an r.ac, .slice r.rp r.rn r.rc] 26)) from (Below.refl _ _).alloc (Nat.le_refl _) _)
  have HB3 := Lib.hid (show Below w.heap.size w (w2.alloc (.cells #[.int .i64 r.year, .int .i64 r.farm, .int .i64 r.ver, .slice r.ap r.an r.ac, .slice r.rp r.rn r.rc] 26)) from HB2.out.trans (Ag.out.mono HB2.out.size))
  have HD3 := Lib.hid (HO2.out.dv.below Ag.out)
  have T3 := Lib.hid (HT2.out.below Ag.out)
  generalize (w2.alloc (.cells #[.int .i64 r.year, .int .i64 r.farm, .int .i64 r.ver, .slice r.ap r.an r.ac, .slice r.rp r.rn r.rc] 26)) = w3 at *
  obtain ⟨g, eg⟩ : ∃ g, w2.heap.size = g := ⟨_, rfl⟩
  rw [eg] at RX ⊢
  clear eg Ag HO2 HT2 SPC NW T1
  have KX := Lib.hid (show ∀ W : World, Below w3.heap.size w3 W → (W.cell? ⟨g, 0, none⟩ = some (.int .i64 r.year) ∧ W.cell? ⟨g, 1, none⟩ = some (.int .i64 r.farm) ∧ W.cell? ⟨g, 2, none⟩ = some (.int .i64 r.ver) ∧ W.cell? ⟨g, 3, none⟩ = some (.slice r.ap r.an r.ac) ∧ W.cell? ⟨g, 4, none⟩ = some (.slice r.rp r.rn r.rc)) from fun W h => by
    have g0 : Blk W g #[.int .i64 r.year, .int .i64 r.farm, .int .i64 r.ver, .slice r.ap r.an r.ac, .slice r.rp r.rn r.rc] 26 := RX.out.below h
    exact ⟨g0.cell 0, g0.cell 1, g0.cell 2, g0.cell 3, g0.cell 4⟩)
  obtain ⟨S0, eS0⟩ : ∃ S, bs (prT D) = S := ⟨_, rfl⟩
  obtain ⟨c0, ec0⟩ : ∃ c, chk D = c := ⟨_, rfl⟩
  have PR := Lib.hid (show Calls Tryz.prog 19 #[.agg #[.int .i64 r.year, .int .i64 r.farm, .int .i64 r.ver, .slice r.ap r.an r.ac, .slice r.rp r.rn r.rc]] w3 (PrG D w3) from print35_any r D w3 HD3.out (HE.out.below HB3.out))
  have RP := Lib.hid (fun (W : World) (h : Below w3.heap.size w3 W) => show Calls Tryz.prog 20 #[.agg #[.int .i64 r.year, .int .i64 r.farm, .int .i64 r.ver, .slice r.ap r.an r.ac, .slice r.rp r.rn r.rc]] W (PrG D W) from refprint35_any r D W (HD3.out.below h) ((HE.out.below HB3.out).below h))
  unfold PrG at PR RP
  rw [eS0, ec0] at PR RP
  clear eS0 ec0
  obtain ⟨d0, d1, d2, d3, d4⟩ := KX.out w3 (Below.refl _ _)
  go_upto_region 6 with (first | (go_at_call 19; (with_reducible refine Calls.mono PR.out ?_); rintro e w4 ⟨rfl, hb4⟩; have H34 := Lib.hid hb4; have HB4 := Lib.hid (HB3.out.trans (hb4.mono HB3.out.size)); clear hb4) | fail)
  clear d0 d1 d2 d3 d4
  obtain ⟨d0, d1, d2, d3, d4⟩ := KX.out w4 H34.out
  have RPW := Lib.hid (RP.out w4 H34.out)
  have hxx : (S0.toList == S0.toList) = true := by simp
  have hcc : (c0 != c0) = false := by simp
  go_upto_region 9 with (first | (go_at_call 20; (with_reducible refine Calls.mono RPW.out ?_); rintro e w5 ⟨rfl, hb5⟩; have T5 := Lib.hid ((T3.out.below H34.out).below hb5); have HB5 := Lib.hid (HB4.out.trans (hb5.mono HB4.out.size)); clear hb5) | fail)
  clear d0 d1 d2 d3 d4 hxx hcc RPW RP PR KX HD3 T3 H34 HB4 RX
  have DC := Lib.hid (decision2_any w.heap.size l q w5 T5.out)
  unfold DecG dCells at DC
  go_upto_region 10 with (first | (go_at_call 8; (with_reducible refine Calls.mono DC.out ?_); rintro e w6 ⟨r2, D2, q2, rfl, hO6, hck, hT6⟩; have HCK := Lib.hid hck; have HB6 := Lib.hid (show Below w.heap.size w w6 from HB5.out.trans (hT6.but.below (Nat.le_refl _) HB5.out.size)); have RP2 := refprint35_any r2 D2 w6 hO6.dv (HE.out.below HB6.out); unfold PrG dCells at RP2; rw [hck] at RP2; have RQ := Lib.hid RP2; clear RP2 hck hO6 hT6) | (go_at_call 20; (with_reducible refine Calls.mono RQ.out ?_); rintro e w7 ⟨rfl, hb7⟩; have HB7 := Lib.hid (HB6.out.trans (hb7.mono HB6.out.size)); clear hb7) | fail)
  obtain ⟨S, eS⟩ : ∃ S, bs (prT D2) = S := ⟨_, rfl⟩
  have HS : S.data.toList = textL D2 := by rw [← eS, bs_list]; unfold prT; rw [if_pos HCK.out]
  have hSz : 8 ≤ S.size ∧ S.size ≤ 14300 := by rw [← size_len, HS]; exact ⟨text_pos D2, (ok_of HCK.out).text⟩
  have hSi : (8 : Int) ≤ (S.size : Int) ∧ (S.size : Int) ≤ 14300 := by omega
  rw [eS]
  clear eS HS DC RQ T5
  obtain ⟨ca, wb, hconv, hBA, hbb⟩ := bytes_of w7 S
  have mb := mod_bd y (n := (S.size : Int)) (by omega)
  have MD := Lib.hid (fun W : World => mod_any y (S.size : Int) W y0 (by omega))
  obtain ⟨ix, eix⟩ : ∃ ix : Nat, mod y (S.size : Int) = (ix : Int) := Int.eq_ofNat_of_zero_le (by omega)
  rw [eix] at MD mb
  have hixS : ix < S.size := by omega
  have hixL : ix < S.data.toList.length := by rw [size_len]; exact hixS
  have hix0 : (0 : Int) ≤ (ix : Int) := Int.natCast_nonneg _
  have hu19 : (u % 19).toNat < 19 := by omega
  obtain ⟨CH, eCH⟩ : ∃ x : UInt8, (⟨#[32, 10, 48, 49, 50, 51, 53, 55, 57, 97, 100, 101, 105, 110, 111, 114, 115, 116, 119]⟩ : ByteArray)[(u % 19).toNat]'(by show (u % 19).toNat < 19; exact hu19) = x := ⟨_, rfl⟩
  have hBc := hBA.c ix hixL
  have hBf := hBA.f ix hixL
  have HBA := Lib.hid hBA
  have hbl := hBA.lt
  have HBb := Lib.hid (HB7.out.trans (hbb.mono HB7.out.size))
  have l7 := HB7.out.size
  clear hBA hbb eix
  go_upto_region 12 with (first | (go_at_call 10; (with_reducible refine Calls.mono (MD.out _) ?_); rintro e wm ⟨rfl, rfl⟩) | fail)
  go_upto_region 13 with fail
  try rw [eCH]
  have HBY := Lib.hid (show BytesAt (wb.setCell ⟨w7.heap.size, ix, none⟩ (.int .u8 (CH.toNat : Int))) w7.heap.size (S.data.toList.set ix CH) from HBA.out.set hixL CH)
  have HBy := Lib.hid (show Below w.heap.size w (wb.setCell ⟨w7.heap.size, ix, none⟩ (.int .u8 (CH.toNat : Int))) from HBb.out.setCell (p := ⟨w7.heap.size, ix, none⟩) l7 _)
  generalize (wb.setCell ⟨w7.heap.size, ix, none⟩ (.int .u8 (CH.toNat : Int))) = wy at *
  obtain ⟨gb, egb⟩ : ∃ g, w7.heap.size = g := ⟨_, rfl⟩
  rw [egb] at HBY ⊢
  clear egb HBA hBc hBf hconv hbl HBb l7 MD mb eCH hu19
  obtain ⟨X, eX⟩ : ∃ X, S.data.toList.set ix CH = X := ⟨_, rfl⟩
  have hxl : X.length = S.size := by rw [← eX, List.length_set, size_len]
  rw [eX] at HBY
  clear eX hixL
  have hixi : (ix : Int) ≤ (S.size : Int) := by omega
  obtain ⟨GA, eGA⟩ : ∃ G, S.extract 0 ix = G := ⟨_, rfl⟩
  obtain ⟨GB, eGB⟩ : ∃ G, S.extract ix S.size = G := ⟨_, rfl⟩
  have zA : GA.size ≤ 14300 := by rw [← eGA, ByteArray.size_extract]; omega
  have zB : GB.size ≤ 14300 := by rw [← eGB, ByteArray.size_extract]; omega
  obtain ⟨C1, eC1⟩ : ∃ C, GA ++ raw = C := ⟨_, rfl⟩
  have z1 : C1.size ≤ 14800 := by rw [← eC1, ByteArray.size_append]; omega
  obtain ⟨C2, eC2⟩ : ∃ C, C1 ++ GB = C := ⟨_, rfl⟩
  have z2 : C2.size ≤ 29100 := by rw [← eC2, ByteArray.size_append]; omega
  obtain ⟨C3, eC3⟩ : ∃ C, S ++ raw = C := ⟨_, rfl⟩
  have z3 : C3.size ≤ 14800 := by rw [← eC3, ByteArray.size_append]; omega
  obtain ⟨C4, eC4⟩ : ∃ C, S ++ S = C := ⟨_, rfl⟩
  have z4 : C4.size ≤ 28600 := by rw [← eC4, ByteArray.size_append]; omega
  have n1 : ¬ 9223372036854775807 < GA.size + raw.size := by omega
  have n2 : ¬ 9223372036854775807 < C1.size + GB.size := by omega
  have n3 : ¬ 9223372036854775807 < S.size + raw.size := by omega
  have n4 : ¬ 9223372036854775807 < S.size + S.size := by omega
  refine wp_region_held_drew (S := fun w' => BytesAt w' gb X) (by kernel_rfl) (HBY.out.below (Below.refl _ _).drew) (fun hHeld => ?_)
  refine tkH 0 75 hHeld ?_
  refine tkH 1 76 hHeld ?_
  refine tkH 2 77 hHeld ?_
  refine tkH 3 78 hHeld ?_ (hy := by intro W0 hSw; (try dsimp only at hSw); have hr := bytes_back W0 gb ca X S.size hxl hSw; go_simp; try with_reducible rfl)
  refine tkH 4 79 hHeld ?_
  refine tkH 5 80 hHeld ?_
  refine tkH 6 81 hHeld ?_
  refine tkH 7 82 hHeld ?_
  refine tkH 8 83 hHeld ?_
  refine tkH 9 84 hHeld ?_
  refine tkH 10 85 hHeld ?_
  refine tkH 11 86 hHeld ?_
  refine tkH 12 87 hHeld ?_
  refine tkH 13 88 hHeld ?_
  refine tkH 14 89 hHeld ?_
  refine tkH 15 90 hHeld ?_
  refine tkH 16 91 hHeld ?_
  refine tkH 17 92 hHeld ?_
  refine tkH 18 93 hHeld ?_
  refine tkH 19 94 hHeld ?_
  refine tkH 20 95 hHeld ?_
  refine tkH 21 96 hHeld ?_
  refine tkH 24 99 hHeld ?_
  refine wpAnyH_ready (rs := [22]) (by kernel_rfl) (by simp) ?_
  refine AllReadyH.cons (o := ⟨some 97, _, _, _, _, _⟩) rfl (fun K hK => ?_) AllReadyH.nil
  go_simp
  refine lit10 (K := K) (by omega) (by omega) (by show X.toArray.size ≤ _; rw [List.size_toArray]; omega) (by omega) (by omega) (by omega) (by omega) (by decide) (by decide) (by decide) (fun wl XS hXl hXz hBl hR => ?_)
  have RR := Lib.hid hR
  have HXZ := Lib.hid hXz
  have HBL := Lib.hid (show Below w.heap.size w wl from HBy.out.trans (hBl.mono HBy.out.size))
  refine hK.out _ _ (HBY.out.below hBl) (fun hHeld2 => ?_)
  clear hK K hR hXz hBl
  (try dsimp only [Act.put])
  try simp only [List.setIfInBounds_toArray, List.set_cons_zero, List.set_cons_succ]
  refine tkH 23 98 hHeld2 ?_
  refine wpAnyH_done (by kernel_rfl) ?_ _
  clear hHeld hHeld2 HBY eGA eGB eC1 eC2 eC3 eC4 n1 n2 n3 n4 zA zB z1 z2 z3 z4 hxl HBy
  obtain ⟨gl, egl⟩ : ∃ g, wy.heap.size = g := ⟨_, rfl⟩
  rw [egl] at RR ⊢
  clear egl
  try simp only [Act.put, List.setIfInBounds_toArray, List.set_cons_zero, List.set_cons_succ]
  go_wp2_with fail
  try simp only [Act.put, List.setIfInBounds_toArray, List.set_cons_zero, List.set_cons_succ]
  go_loopw [99] (fun iv W => ∃ j : Nat, j ≤ 10 ∧ iv = .int .i64 (j : Int) ∧ Below wl.heap.size wl W) (fun iv _ => 10 - (intOf iv).toNat)
  case atStart => exact ⟨0, Nat.zero_le _, rfl, Below.refl _ _⟩
  case round =>
    obtain ⟨wo, rfl⟩ : ∃ wo : World, wo = wr := ⟨_, rfl⟩
    obtain ⟨j, hj, rfl, hb⟩ := hrel
    have hj0 : (0 : Int) ≤ (j : Int) := Int.natCast_nonneg _
    have HBR := Lib.hid hb
    have HBO := Lib.hid (show Below w.heap.size w wo from HBL.out.trans (hb.mono HBL.out.size))
    by_cases hlt : j < 10
    · have hj1 : (j : Int) < 10 := by omega
      obtain ⟨b, off, eb, hbl, hc⟩ := SB_at (RR.out.below hb) (k := j) (by omega)
      cases eb
      rw [Nat.zero_add] at hc
      obtain ⟨e0, ee0⟩ : ∃ e, XS[j]'(by omega) = e := ⟨_, rfl⟩
      have hez : e0.size ≤ 29100 := by rw [← ee0]; exact HXZ.out _ (List.getElem_mem _)
      rw [ee0] at hc
      obtain ⟨⟨D3, n3, c3⟩, eP⟩ : ∃ P, parse e0.data.toList = P := ⟨_, rfl⟩
      have PA := Lib.hid (show Calls Tryz.prog 21 #[.string e0] wo (ParseG (D3, n3, c3) wo) from eP ▸ parse35_any e0 wo (HE.out.below HBO.out) (by omega))
      have PB := Lib.hid (fun (W : World) (h : Below wo.heap.size wo W) => show Calls Tryz.prog 22 #[.string e0] W (ParseG (D3, n3, c3) W) from eP ▸ refparse35_any e0 W ((HE.out.below HBO.out).below h) (by omega))
      unfold ParseG dCells at PA PB
      clear ee0 eP hb hbl
      go_upto_region 17 with (first | (go_at_call 21; (with_reducible refine Calls.mono PA.out ?_); rintro e w8 ⟨r3, rfl, hO8, hb8⟩; have HO8 := Lib.hid hO8; have HB8 := Lib.hid (HBO.out.trans (hb8.mono HBO.out.size)); have HY8 := Lib.hid hb8; clear hO8 hb8) | fail)
      have RZ := Lib.hid (Blk.new w8 #[.int .i64 r3.year, .int .i64 r3.farm, .int .i64 r3.ver, .slice r3.ap r3.an r3.ac, .slice r3.rp r3.rn r3.rc] 26)
      have Ag3 := Lib.hid (show Below w8.heap.size w8 (w8.alloc (.cells #[.int .i64 r3.year, .int .i64 r3.farm, .int .i64 r3.ver, .slice r3.ap r3.an r3.ac, .slice r3.rp r3.rn r3.rc] 26)) from (Below.refl _ _).alloc (Nat.le_refl _) _)
      have HB9 := Lib.hid (show Below w.heap.size w (w8.alloc (.cells #[.int .i64 r3.year, .int .i64 r3.farm, .int .i64 r3.ver, .slice r3.ap r3.an r3.ac, .slice r3.rp r3.rn r3.rc] 26)) from HB8.out.trans (Ag3.out.mono HB8.out.size))
      have HD9 := Lib.hid (HO8.out.dv.below Ag3.out)
      have HY9 := Lib.hid (HY8.out.trans (Ag3.out.mono HY8.out.size))
      generalize (w8.alloc (.cells #[.int .i64 r3.year, .int .i64 r3.farm, .int .i64 r3.ver, .slice r3.ap r3.an r3.ac, .slice r3.rp r3.rn r3.rc] 26)) = w9 at *
      obtain ⟨g3, eg3⟩ : ∃ g, w8.heap.size = g := ⟨_, rfl⟩
      rw [eg3] at RZ ⊢
      clear eg3 Ag3 HO8 PA hc
      have PBW := Lib.hid (PB.out w9 HY9.out)
      go_upto_region 18 with (first | (go_at_call 22; (with_reducible refine Calls.mono PBW.out ?_); rintro e w10 ⟨r4, rfl, hO10, hb10⟩; have HO10 := Lib.hid hO10; have HB10 := Lib.hid (HB9.out.trans (hb10.mono HB9.out.size)); have H910 := Lib.hid hb10; clear hO10 hb10) | fail)
      have RZ4 := Lib.hid (Blk.new w10 #[.int .i64 r4.year, .int .i64 r4.farm, .int .i64 r4.ver, .slice r4.ap r4.an r4.ac, .slice r4.rp r4.rn r4.rc] 26)
      have Ag4 := Lib.hid (show Below w10.heap.size w10 (w10.alloc (.cells #[.int .i64 r4.year, .int .i64 r4.farm, .int .i64 r4.ver, .slice r4.ap r4.an r4.ac, .slice r4.rp r4.rn r4.rc] 26)) from (Below.refl _ _).alloc (Nat.le_refl _) _)
      have HB11 := Lib.hid (show Below w.heap.size w (w10.alloc (.cells #[.int .i64 r4.year, .int .i64 r4.farm, .int .i64 r4.ver, .slice r4.ap r4.an r4.ac, .slice r4.rp r4.rn r4.rc] 26)) from HB10.out.trans (Ag4.out.mono HB10.out.size))
      have HD11 := Lib.hid (HO10.out.dv.below Ag4.out)
      have H911 := Lib.hid (H910.out.trans (Ag4.out.mono H910.out.size))
      generalize (w10.alloc (.cells #[.int .i64 r4.year, .int .i64 r4.farm, .int .i64 r4.ver, .slice r4.ap r4.an r4.ac, .slice r4.rp r4.rn r4.rc] 26)) = w11 at *
      obtain ⟨g4, eg4⟩ : ∃ g, w10.heap.size = g := ⟨_, rfl⟩
      rw [eg4] at RZ4 ⊢
      clear eg4 Ag4 HO10 PB PBW
      have SM := Lib.hid (show Calls Tryz.prog 23 #[.agg #[.int .i64 r3.year, .int .i64 r3.farm, .int .i64 r3.ver, .slice r3.ap r3.an r3.ac, .slice r3.rp r3.rn r3.rc], .agg #[.int .i64 r4.year, .int .i64 r4.farm, .int .i64 r4.ver, .slice r4.ap r4.an r4.ac, .slice r4.rp r4.rn r4.rc]] w11 (BoolG true w11) from same35_any r3 r4 D3 w11 (HD9.out.below H911.out) HD11.out)
      unfold BoolG at SM
      obtain ⟨k0, k1, k2, k3, k4⟩ := (RZ.out.below H911.out).c5
      obtain ⟨q0, q1, q2, q3, q4⟩ := RZ4.out.c5
      have hnn : (n3 != n3) = false := by simp
      have hcc : (c3 != c3) = false := by simp
      have HX11 := Lib.hid (show Below wl.heap.size wl w11 from HBR.out.trans ((HY9.out.trans (H911.out.mono HY9.out.size)).mono HBR.out.size))
      go_wp2_with (first | (go_at_call 23; (with_reducible refine Calls.mono SM.out ?_); rintro e w12 ⟨rfl, hb12⟩; have HX12 := Lib.hid (HX11.out.trans (hb12.mono HX11.out.size)); clear hb12) | fail)
      go_roundw
      case rel => exact ⟨j + 1, by omega, by go_num, HX12.out⟩
      case measure => simp [intOf]; omega
    · obtain rfl : j = 10 := by omega
      have AE := Lib.hid (AW.out wo HBO.out)
      go_wp2_with (first | (go_at_call 6; (with_reducible refine Calls.mono AE.out ?_); rintro e wz ⟨rfl, hbz⟩) | fail)
      go_ret
      exact ⟨rfl, HBO.out.trans (hbz.mono HBO.out.size)⟩

end Go.Proofs.YtljibgchickcpaaGreatDoor
