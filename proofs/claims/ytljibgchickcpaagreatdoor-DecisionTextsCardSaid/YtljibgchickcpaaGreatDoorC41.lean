/- Packed. -/
import Derived.Test.YtljibgchickcpaaGreatDoorC40
set_option maxRecDepth 100000
set_option maxHeartbeats 8000000
open Go.Value renaming int → I
open Go.IntKind renaming i64 → O
namespace Go.Proofs.YtljibgchickcpaaGreatDoor
open Go.RowKit Sc As Dn
structure PFr (w W:World) (r:RD) (D:Dec):Prop where
 res:Blk W w.heap.size #[I O 0,I O 0,I O 0,.slice none 0 0,.slice none 0 0] 26
 box:Blk W (w.heap.size+1) #[I O r.year,I O r.farm,I O r.ver,.slice r.ap r.an r.ac,.slice r.rp r.rn r.rc] 26
 own:DO (w.heap.size+2) W r D
 low:Below w.heap.size w W
theorem PFr.below {w W W' : World}{r:RD}{D:Dec}(h:PFr w W r D)(hb:Below W.heap.size W W'):PFr w W' r D :=
 ⟨h.res.below hb,h.box.below hb,h.own.below hb,h.low.trans (hb.mono h.low.size)⟩
theorem ix10_any (tx:ByteArray)(W:World){v:Int}(hv:Lib.indexByte tx.data.toList 10=v):Calls Tryz.prog 43 #[.string tx,.string ⟨#[10]⟩] W (fun e w' => e = .returned (I O v)∧w' = W):=by
 have:=Tryz.strings_Index_one tx 10 W;rw[hv]at this;exact this
structure LkF (w W:World) (h:Nat) (r r2:RD) (o:Option (Dec × Int × Bool)) (v:Int) (en:Bool):Prop where
 res:Blk W w.heap.size #[I O 0,I O 0,I O 0,.slice none 0 0,.slice none 0 0] 26
 box:Blk W (w.heap.size+1) #[I O r.year,I O r.farm,I O r.ver,.slice r.ap r.an r.ac,.slice r.rp r.rn r.rc] 26
 new:Blk W h #[I O r2.year,I O r2.farm,I O r2.ver,.slice r2.ap r2.an r2.ac,.slice r2.rp r2.rn r2.rc] 26
 hh:w.heap.size+2≤h
 low:Below w.heap.size w W
 ok:∀D' v' en', o=some (D', v', en')→DO (w.heap.size+2) W r2 D' ∧ v=v' ∧ en=en'
theorem LkF.behind {w wr w5:World}{r r2:RD}{Dk:Dec}{o:Option (Dec × Int × Bool)}{v:Int}{en:Bool}(hF:PFr w wr r Dk)(hok:∀D' v' en', o=some (D', v', en')→DO (w.heap.size+2) w5 r2 D' ∧ v=v' ∧ en=en' ∧ Nw wr.drew r r2)(hb:Below (w.heap.size+2) wr.drew w5) :
  LkF w (w5.alloc (.cells #[I O r2.year,I O r2.farm,I O r2.ver,.slice r2.ap r2.an r2.ac,.slice r2.rp r2.rn r2.rc] 26)) w5.heap.size r r2 o v en:=by
 have b1:Below w5.heap.size w5 (w5.alloc (.cells #[I O r2.year,I O r2.farm,I O r2.ver,.slice r2.ap r2.an r2.ac,.slice r2.rp r2.rn r2.rc] 26)):=(brf _ _).alloc mle _;have hs:=hb.size;have l1:=hF.box.lt;have hs:wr.heap.size≤w5.heap.size:=hs;refine⟨Blk.below (wr:=w5) ((hb.block _ (by omega)).trans hF.res) b1,Blk.below (wr:=w5) ((hb.block _ (by omega)).trans hF.box) b1,Blk.new _ _ _,by omega,(hF.low.drew.trans (hb.mono (by omega))).trans (b1.mono (by have:=hF.low.size;omega)),fun D' v' en' h=>?_⟩;obtain⟨a1,a2,a3, -⟩:=hok D' v' en' h;exact⟨a1.below b1,a2,a3⟩
theorem LkF.ahead {w wr w5:World}{r r2:RD}{Dk:Dec}{o:Option (Dec × Int × Bool)}{v:Int}{en:Bool}(hF:PFr w wr r Dk)(hok:∀D' v' en', o=some (D', v', en')→DO (w.heap.size+2) w5 r2 D' ∧ v=v' ∧ en=en' ∧ Nw (wr.alloc (.cells #[I O 0,I O 0,I O 0,.slice none 0 0,.slice none 0 0] 26)).drew r r2)(hb:Below (w.heap.size+2) (wr.alloc (.cells #[I O 0,I O 0,I O 0,.slice none 0 0,.slice none 0 0] 26)).drew w5)(hfa:Fa (wr.alloc (.cells #[I O 0,I O 0,I O 0,.slice none 0 0,.slice none 0 0] 26)).drew r w5) :
  Blk w5 wr.heap.size #[I O 0,I O 0,I O 0,.slice none 0 0,.slice none 0 0] 26∧LkF w (((((w5.setCell ⟨wr.heap.size,0,none⟩ (I O r2.year)).setCell ⟨wr.heap.size,1,none⟩ (I O r2.farm)).setCell ⟨wr.heap.size,2,none⟩ (I O r2.ver)).setCell ⟨wr.heap.size,3,none⟩ (.slice r2.ap r2.an r2.ac)).setCell ⟨wr.heap.size,4,none⟩ (.slice r2.rp r2.rn r2.rc)) wr.heap.size r r2 o v en:=by
 have b1:Below wr.heap.size wr (wr.alloc (.cells #[I O 0,I O 0,I O 0,.slice none 0 0,.slice none 0 0] 26)).drew:=((brf _ _).alloc mle _).drew;have l1:=hF.box.lt;have n1:(Value.slice r.ap r.an r.ac).ownBlock≠some wr.heap.size:=fun e=>by have:=own_lt hF.own.aw e;omega
 have n2:(Value.slice r.rp r.rn r.rc).ownBlock≠some wr.heap.size:=fun e=>by have:=own_lt hF.own.rs e;omega
 have sz:wr.heap.size<(wr.alloc (.cells #[I O 0,I O 0,I O 0,.slice none 0 0,.slice none 0 0] 26)).drew.heap.size:=by simp
 have hB:Blk w5 wr.heap.size #[I O 0,I O 0,I O 0,.slice none 0 0,.slice none 0 0] 26:=(hfa _ sz n1 n2).trans ((Blk.new wr #[I O 0,I O 0,I O 0,.slice none 0 0,.slice none 0 0] 26).below (brf _ _).drew);have k:∀i,i≠wr.heap.size→(((((w5.setCell ⟨wr.heap.size,0,none⟩ (I O r2.year)).setCell ⟨wr.heap.size,1,none⟩ (I O r2.farm)).setCell ⟨wr.heap.size,2,none⟩ (I O r2.ver)).setCell ⟨wr.heap.size,3,none⟩ (.slice r2.ap r2.an r2.ac)).setCell ⟨wr.heap.size,4,none⟩ (.slice r2.rp r2.rn r2.rc)).heap[i]?=w5.heap[i]?:=fun i hi=>by
  rw[setCell_far _ hi,setCell_far _ hi,setCell_far _ hi,setCell_far _ hi,setCell_far _ hi]
 refine⟨hB,(k _ (by omega)).trans ((hb.block _ (by omega)).trans ((b1.block _ (by omega)).trans hF.res)),(k _ (by omega)).trans ((hb.block _ (by omega)).trans ((b1.block _ (by omega)).trans hF.box)),Blk.put5 hB _ _ _ _ _,by omega,Below.put5 ((hF.low.trans (b1.mono hF.low.size)).trans (hb.mono (by omega))) hF.low.size _ _ _ _ _,fun D' v' en' h=>?_⟩
 obtain⟨a1,a2,a3,a4⟩:=hok D' v' en' h;obtain⟨m1,m2⟩:=a4 _ sz n1 n2;exact⟨⟨a1.year,a1.farm,a1.ver,a1.aw.blocks fun i e _ _=>k i (fun e2=>m1 (e2▸e)),a1.rs.blocks fun i e _ _=>k i (fun e2=>m2 (e2▸e)),a1.ap⟩,a2,a3⟩
theorem LkF.take {w W:World}{h:Nat}{r r2:RD}{D' : Dec}{v v' : Int}{en en' : Bool}(hL:LkF w W h r r2 (some (D', v', en')) v en):PFr w (((((W.setCell ⟨w.heap.size+1,0,none⟩ (I O r2.year)).setCell ⟨w.heap.size+1,1,none⟩ (I O r2.farm)).setCell ⟨w.heap.size+1,2,none⟩ (I O r2.ver)).setCell ⟨w.heap.size+1,3,none⟩ (.slice r2.ap r2.an r2.ac)).setCell ⟨w.heap.size+1,4,none⟩ (.slice r2.rp r2.rn r2.rc)) r2 D' :=by
 obtain⟨a1, -, -⟩:=hL.ok D' v' en' rfl;have k:∀i,i≠w.heap.size+1→(((((W.setCell ⟨w.heap.size+1,0,none⟩ (I O r2.year)).setCell ⟨w.heap.size+1,1,none⟩ (I O r2.farm)).setCell ⟨w.heap.size+1,2,none⟩ (I O r2.ver)).setCell ⟨w.heap.size+1,3,none⟩ (.slice r2.ap r2.an r2.ac)).setCell ⟨w.heap.size+1,4,none⟩ (.slice r2.rp r2.rn r2.rc)).heap[i]?=W.heap[i]?:=fun i hi=>by
  rw[setCell_far _ hi,setCell_far _ hi,setCell_far _ hi,setCell_far _ hi,setCell_far _ hi]
 exact⟨(k _ (by omega)).trans hL.res,Blk.put5 hL.box _ _ _ _ _,a1.far5 (by omega) _ _ _ _ _,Below.put5 hL.low (by omega) _ _ _ _ _⟩
theorem refparse35_long (s:ByteArray)(w:World)(hlong:16384<s.size):Calls Tryz.prog 22 #[.string s] w (ParseG (parse s.data.toList) w):=by
 have R0:=mh (Blk.new w #[I O 0,I O 0,I O 0,.slice none 0 0,.slice none 0 0] 26);have B0:=mh (show Below w.heap.size w (w.alloc (.cells #[I O 0,I O 0,I O 0,.slice none 0 0,.slice none 0 0] 26)) from(brf _ _).alloc mle _);have HP:=mh (show parse s.data.toList=(Dec.none,0,1) from by unfold parse;rw[size_len,if_pos hlong]);have hi:(16384:Int)<(s.size:Int):=by omega
 obtain⟨W0,eW0⟩:∃W,w.alloc (.cells #[I O 0,I O 0,I O 0,.slice none 0 0,.slice none 0 0] 26)=W:=⟨_,rfl⟩;rw[eW0]at R0 B0;have a0:(w.alloc (.cells #[I O 0,I O 0,I O 0,.slice none 0 0,.slice none 0 0] 26))=W0:=eW0;obtain⟨t0,t0f,t1,t1f,t2,t2f,t3,t3f,t4,t4f⟩:=R0.out.f5
 go_enter Tryz.func22,Tryz.ntmps22
 go_upto_region 1 with fail
 clear a0 eW0
 go_wp2
 exact post5 (v := .tuple #[.agg #[I O 0,I O 0,I O 0,.slice none 0 0,.slice none 0 0],I O 0,I O 1]) R0.out rfl fun wf PB PK=>⟨by obtain⟨c0,c1,c2,c3,c4⟩:=PB.c5;simp[results,Tryz.results22,go_sem,c0,c1,c2,c3,c4],⟨⟨0,0,0,none,0,0,none,0,0⟩,by rw[HP.out];rfl,by rw[HP.out];exact DO.nil _ _,B0.out.trans (PK.below mle B0.out.size)⟩⟩
theorem refparse35_any (s:ByteArray)(w:World)(hE:Env w)(hs:s.size≤9223372036854775807):Calls Tryz.prog 22 #[.string s] w (ParseG (parse s.data.toList) w):=by
 by_cases hlong:16384<s.size
 ·exact refparse35_long s w hlong
 obtain⟨P,hP⟩:∃P,parse s.data.toList=P:=⟨_,rfl⟩;have hrun0:run (s.size+1) 0 PS.start s.data.toList=P:=by rw[← hP];unfold parse;rw[size_len,if_neg hlong]
 rw[hP];have hi:¬((16384:Int)<(s.size:Int)):=by omega
 have hsz0:0≤(s.size:Int):=inn _;have HE:=mh hE;have SZ0:(w.alloc (.cells #[I O 0,I O 0,I O 0,.slice none 0 0,.slice none 0 0] 26)).heap.size=w.heap.size+1:=by simp
 have F0:=mh (show PFr w ((w.alloc (.cells #[I O 0,I O 0,I O 0,.slice none 0 0,.slice none 0 0] 26)).alloc (.cells #[I O 0,I O 0,I O 0,.slice none 0 0,.slice none 0 0] 26)) ⟨0,0,0,none,0,0,none,0,0⟩ Dec.none from by
  have b1:Below w.heap.size w (w.alloc (.cells #[I O 0,I O 0,I O 0,.slice none 0 0,.slice none 0 0] 26)):=(brf _ _).alloc mle _;have x1:=Blk.new w #[I O 0,I O 0,I O 0,.slice none 0 0,.slice none 0 0] 26;have x2:=Blk.new (w.alloc (.cells #[I O 0,I O 0,I O 0,.slice none 0 0,.slice none 0 0] 26)) #[I O 0,I O 0,I O 0,.slice none 0 0,.slice none 0 0] 26;rw[SZ0]at x2
  exact⟨x1.below ((brf _ _).alloc mle _),x2,DO.nil _ _,b1.alloc (by simp) _⟩)
 clear hE hP
 go_enter Tryz.func22,Tryz.ntmps22
 go_upto_region 4 with fail
 generalize (w.alloc (.cells #[I O 0,I O 0,I O 0,.slice none 0 0,.slice none 0 0] 26)).alloc (.cells #[I O 0,I O 0,I O 0,.slice none 0 0,.slice none 0 0] 26)=W1 at *;clear SZ0
 go_wp2
 go_loopw [0,6,7] (fun tv sv nv W=>∃(f k:Nat) (st:PS) (Dk:Dec) (r:RD) (tx:ByteArray) (s0:Int),tv = .string tx∧sv=I O s0∧nv=I O ((k:Int)+1)∧tx.size<f∧tx.size+k≤16384∧PFr w W r Dk∧StR st Dk ((k:Int)+1==1)∧Dk.aw.length≤k∧Dk.rs.length≤k∧run f (k:Int) st tx.data.toList=P) (fun tv _ _ _=>szOf tv)
 case atStart=>exact⟨s.size+1,0,PS.start,Dec.none,⟨0,0,0,none,0,0,none,0,0⟩,s,0,rfl,rfl,rfl,Nat.lt_succ_self _,by omega,F0.out,StR.start,Nat.le_refl _,Nat.le_refl _,hrun0⟩
 case round =>
  obtain⟨f,k,st,Dk,r,tx,s0,rfl,rfl,rfl,hf,hk,hF,hst,hal,hrl,hrun⟩:=hrel;have HF:=mh hF;have HST:=mh hst;have HAL:=mh (And.intro hal hrl);have HRUN:=mh hrun;have HE1:=mh (HE.out.below hF.low);have hk0:(0:Int)≤(k:Int):=inn _;have hki:(k:Int)≤16384:=by omega
  clear hF hst hrun hal hrl F0 hrun0;obtain⟨f,rfl⟩:∃f', f=f' + 1:=⟨f - 1,by omega⟩;have hft:=Nat.lt_succ_iff.1 hf
  by_cases hneg:Lib.indexByte tx.data.toList 10<0
  ·have HP:=mh (show P=(Dec.none,(k:Int)+1,4) from by
    rw[← HRUN.out]
    by_cases ht:tx.data.toList = []
    ·rw[ht];exact run_end HST.out
    ·exact run_open ht hneg)
   obtain⟨iv,eiv⟩:∃iv,Lib.indexByte tx.data.toList 10=iv:=⟨_,rfl⟩;have IX:=mh (ix10_any tx wr eiv);rw[eiv]at hneg;obtain⟨t0,t0f,t1,t1f,t2,t2f,t3,t3f,t4,t4f⟩:=HF.out.res.f5
   skip
   clear eiv HRUN HST
   go_wp2_with (go_at_call 43;(with_reducible refine cmo IX.out ?_);rintro e w1 ⟨rfl,hw⟩;obtain rfl:=hw.symm)
   exact post5 (v := .tuple #[.agg #[I O 0,I O 0,I O 0,.slice none 0 0,.slice none 0 0],I O ((k:Int)+1),I O 4]) HF.out.res rfl fun wf PB PK=>⟨by obtain⟨c0,c1,c2,c3,c4⟩:=PB.c5;simp[results,Tryz.results22,go_sem,c0,c1,c2,c3,c4],⟨⟨0,0,0,none,0,0,none,0,0⟩,by rw[HP.out];rfl,by rw[HP.out];exact DO.nil _ _,HF.out.low.trans (PK.below mle HF.out.low.size)⟩⟩
  ·skip
   obtain⟨kx,ekx⟩:∃kx:Nat,Lib.indexByte tx.data.toList 10=(kx:Int):=Int.eq_ofNat_of_zero_le (by omega);have hkx:kx<tx.size:=by have:=ix_lt hneg;rw[ekx,Int.toNat_natCast,size_len]at this;exact this
   have htx:tx.data.toList ≠ []:=fun e=>by rw[← size_len,e]at hkx;simp at hkx
   have IX:=mh (ix10_any tx wr ekx);have hone:(tx.extract 0 kx).data.toList=tx.data.toList.take kx:=Lib.extract_from_zero tx kx;have ht2:(tx.extract (kx+1) tx.size).data.toList=tx.data.toList.drop (kx+1):=by
    rw[Lib.extract_data,List.take_of_length_le (by rw[List.length_drop,size_len];exact Nat.le_refl _)]
   have hz1:(tx.extract 0 kx).size≤16384:=by
    have:=size_len (tx.extract 0 kx);rw[hone,List.length_take,size_len]at this;omega
   have hz2:(tx.extract (kx+1) tx.size).size=tx.size - (kx+1):=by
    have:=size_len (tx.extract (kx+1) tx.size);rw[ht2,List.length_drop,size_len]at this;omega
   obtain⟨o,eo⟩:∃o,lineR Dk ((k:Int)+1==1) (Wo.pcs 32 [] (tx.extract 0 kx).data.toList)=o:=⟨_,rfl⟩;have l1:=HF.out.box.lt;have LN:=mh (fun (W:World) (hW:Below wr.heap.size wr W)=>show Calls Tryz.prog 44 #[.agg #[I O r.year,I O r.farm,I O r.ver,.slice r.ap r.an r.ac,.slice r.rp r.rn r.rc],I O ((k:Int)+1),.string (tx.extract 0 kx)] W (RLnG (w.heap.size+2) r o W) from eo▸refline35_any (w.heap.size+2) r Dk ((k:Int)+1) (tx.extract 0 kx) W (HF.out.own.below hW) (HE1.out.below hW) (Nat.le_trans l1 hW.size) hz1 (by have:=HAL.out.1;omega) (by have:=HAL.out.2;omega));unfold RLnG dCells at LN;rw[hone]at eo;have HO:=mh eo;have HQ:=mh (And.intro ekx (And.intro hneg (And.intro htx (And.intro ht2 hz2))))
   have KK:=mh (show ∀W:World,W.heap[w.heap.size+1]?=wr.heap[w.heap.size+1]?→(W.cell? ⟨w.heap.size+1,0,none⟩=some (I O r.year)∧W.cell? ⟨w.heap.size+1,1,none⟩=some (I O r.farm)∧W.cell? ⟨w.heap.size+1,2,none⟩=some (I O r.ver)∧W.cell? ⟨w.heap.size+1,3,none⟩=some (.slice r.ap r.an r.ac)∧W.cell? ⟨w.heap.size+1,4,none⟩=some (.slice r.rp r.rn r.rc)) from fun W h=>by
    have g:Blk W (w.heap.size+1) #[I O r.year,I O r.farm,I O r.ver,.slice r.ap r.an r.ac,.slice r.rp r.rn r.rc] 26:=h.trans HF.out.box
    exact⟨g.cell 0,g.cell 1,g.cell 2,g.cell 3,g.cell 4⟩)
   have hkt:(kx:Int)≤(tx.size:Int):=by omega
   have hkt1:(kx:Int)+1≤(tx.size:Int):=by omega
   have hts:(tx.size:Int)≤16384:=by omega
   have hq0:(0:Int)≤(kx:Int):=inn _;have hnk:¬(kx:Int)<0:=by omega
   have D0:=mh (show Below wr.heap.size wr wr.drew from(brf _ _).drew);have D1:=mh (show Below wr.heap.size wr (wr.alloc (.cells #[I O 0,I O 0,I O 0,.slice none 0 0,.slice none 0 0] 26)).drew from((brf _ _).alloc mle _).drew);have K0:=mh (KK.out wr.drew rfl);have K1:=mh (KK.out _ (D1.out.block _ l1));clear eo ekx hneg htx hone ht2 hz1 hz2
   go_upto_region 10 with (first|(go_at_call 43;(with_reducible refine cmo IX.out ?_);rintro e w1 ⟨rfl,hw⟩;obtain rfl:=hw.symm)|fail)
   go_cut [9,10,11,12] (fun xv sv ev ov W=>∃(h:Nat) (r2:RD) (v:Int) (en:Bool),xv = .pointer (some ⟨h,0,none⟩)∧sv=I O v∧ev = .bool en∧ov = .bool o.isSome∧LkF w W h r r2 o v en)
   case first =>
    go_region_held3 (fun w' => w'.cell? ⟨w.heap.size+1,0,none⟩=some (I O r.year)∧w'.cell? ⟨w.heap.size+1,1,none⟩=some (I O r.farm)∧w'.cell? ⟨w.heap.size+1,2,none⟩=some (I O r.ver)∧w'.cell? ⟨w.heap.size+1,3,none⟩=some (.slice r.ap r.an r.ac)∧w'.cell? ⟨w.heap.size+1,4,none⟩=some (.slice r.rp r.rn r.rc)) (first|with_reducible exact K0.out|with_reducible exact K1.out|with_reducible exact K2.out|with_reducible exact K3.out|with_reducible exact LK.out.box.c5|fail) (first|(go_at_call 44;(with_reducible refine cmo (LN.out _ D0.out) ?_);rintro e w5 ⟨r2,v,en,rfl,hok,hb5, -⟩;have LK:=mh (LkF.behind HF.out hok hb5);have K2:=mh (KK.out w5 (hb5.block _ (Nat.lt_succ_self _)));have K3:=mh (KK.out (w5.alloc (.cells #[I O 0,I O 0,I O 0,.slice none 0 0,.slice none 0 0] 26)) (((show Below w5.heap.size w5 (w5.alloc (.cells #[I O 0,I O 0,I O 0,.slice none 0 0,.slice none 0 0] 26)) from(brf _ _).alloc mle _).block _ (nll l1 hb5.size)).trans (hb5.block _ (Nat.lt_succ_self _))));clear hok hb5)|(go_at_call 44;(with_reducible refine cmo (LN.out _ D1.out) ?_);rintro e w5 ⟨r2,v,en,rfl,hok,hb5,hfa⟩;obtain⟨hNB,hLK⟩:=LkF.ahead HF.out hok hb5 hfa;have LK:=mh hLK;have NB:=mh hNB;have K2:=mh (KK.out w5 ((hb5.block _ (Nat.lt_succ_self _)).trans (D1.out.block _ l1)));have n0:=hNB.cell 0;have n0f:=hNB.fr 0;have n1:=hNB.cell 1;have n1f:=hNB.fr 1;have n2:=hNB.cell 2;have n2f:=hNB.fr 2;have n3:=hNB.cell 3;have n3f:=hNB.fr 3;have n4:=hNB.cell 4;have n4f:=hNB.fr 4;simp only[List.getElem?_toArray,List.getElem?_cons_zero,List.getElem?_cons_succ]at n0 n1 n2 n3 n4;clear hok hb5 hfa hNB hLK)|fail)
    all_goals
     go_wp2_with fail
     go_meet
     exact⟨_,r2,v,en,rfl,rfl,rfl,rfl,LK.out⟩
   case rest =>
    obtain⟨h,r2,v,en,rfl,rfl,rfl,rfl,hL⟩:=hcut;obtain⟨ekx,hneg0,htx,ht2,hz2⟩:=HQ.out;have hneg:¬Lib.indexByte tx.data.toList 10<0:=by omega
    have hhl:=hL.new.lt
    cases ho:o with
    | none =>
      subst ho
      have HP:=mh (show P=(Dec.none,(k:Int)+1,4) from by
       rw[← HRUN.out];refine run_bad htx hneg ?_;rw[ekx,Int.toNat_natCast];obtain⟨x0,r0,e0⟩:=pcs_some 32 (tx.data.toList.take kx) [];have h1:=HO.out;rw[e0]at h1 ⊢
       exact HST.out.none h1)
      obtain⟨t0,t0f,t1,t1f,t2,t2f,t3,t3f,t4,t4f⟩:=hL.res.f5
      skip
      have HL:=mh hL;clear ekx hneg htx ht2 hz2 hL HQ HRUN HST KK LN
      go_wp2_with fail
      exact post5 (v := .tuple #[.agg #[I O 0,I O 0,I O 0,.slice none 0 0,.slice none 0 0],I O ((k:Int)+1),I O 4]) HL.out.res rfl fun wf PB PK=>⟨by obtain⟨c0,c1,c2,c3,c4⟩:=PB.c5;simp[results,Tryz.results22,go_sem,c0,c1,c2,c3,c4],⟨⟨0,0,0,none,0,0,none,0,0⟩,by rw[HP.out];rfl,by rw[HP.out];exact DO.nil _ _,HL.out.low.trans (PK.below mle HL.out.low.size)⟩⟩
    | some y =>
      obtain⟨D', v', en'⟩:=y;subst ho;obtain⟨-,rfl,rfl⟩:=hL.ok D' v' en' rfl;obtain⟨s', hs', hd', hen,hnen⟩:∃s', stepW st (Wo.pcs 32 [] (tx.data.toList.take kx))=some s' ∧ s'.d=D' ∧ (en=true→s'.part=3∧s'.tot=v)∧(en=false→StR s' D' false):=by
       obtain⟨x0,r0,e0⟩:=pcs_some 32 (tx.data.toList.take kx) [];have h1:=HO.out;rw[e0]at h1 ⊢;exact HST.out.some h1
      have hr2:run f ((k:Int)+1) s' (tx.extract (kx+1) tx.size).data.toList=P:=by
       rw[← HRUN.out,run_step (s' := s') htx hneg (by rw[ekx,Int.toNat_natCast];exact hs'),ht2,ekx,Int.toNat_natCast]
      have hln:=stepW_len hs'; rw[HST.out.d,hd']at hln;have HT:=mh (hL.take.below (brf _ _).drew);have HS:=mh (And.intro hd' (And.intro hen hnen));have HR2:=mh hr2;have HLN:=mh (show D'.aw.length≤k+1∧D'.rs.length≤k+1 from by have:=HAL.out;omega);have m0:=hL.new.cell 0;have m1:=hL.new.cell 1;have m2:=hL.new.cell 2;have m3:=hL.new.cell 3;have m4:=hL.new.cell 4;have b0:=hL.box.cell 0;have b0f:=hL.box.fr 0;have b1:=hL.box.cell 1;have b1f:=hL.box.fr 1;have b2:=hL.box.cell 2;have b2f:=hL.box.fr 2;have b3:=hL.box.cell 3;have b3f:=hL.box.fr 3;have b4:=hL.box.cell 4;have b4f:=hL.box.fr 4;simp only[List.getElem?_toArray,List.getElem?_cons_zero,List.getElem?_cons_succ]at m0 m1 m2 m3 m4 b0 b1 b2 b3 b4;have hhne:h≠w.heap.size+1:=by have:=hL.hh;omega
      have hw1:IntKind.i64.wrap ((kx:Int)+1)=(kx:Int)+1:=by rw[IntKind.wrap_i64];omega
      have hw2:IntKind.i64.wrap ((k:Int)+1+1)=(k:Int)+1+1:=by rw[IntKind.wrap_i64];omega
      have hz3:(tx.extract (kx+1) tx.size).size<tx.size:=by omega
      have hz4:(tx.extract (kx+1) tx.size).size+(k+1)≤16384:=by omega
      clear ekx hneg htx ht2 hz2 hL HQ HRUN HST KK LN hs' hd' hen hnen hr2 hln HO HAL
      go_upto_region 13 with fail
      go_region
      generalize (((((wc.setCell ⟨w.heap.size+1,0,none⟩ (I O r2.year)).setCell ⟨w.heap.size+1,1,none⟩ (I O r2.farm)).setCell ⟨w.heap.size+1,2,none⟩ (I O r2.ver)).setCell ⟨w.heap.size+1,3,none⟩ (.slice r2.ap r2.an r2.ac)).setCell ⟨w.heap.size+1,4,none⟩ (.slice r2.rp r2.rn r2.rc)).drew=wy at *;generalize tx.extract (kx+1) tx.size=tt at *;clear m0 m1 m2 m3 m4 b0 b1 b2 b3 b4 b0f b1f b2f b3f b4f hhne hhl hkt hkt1 hw1 hnk;obtain⟨hd', hen,hnen⟩:=HS.out;obtain⟨f,rfl⟩:∃f', f=f' + 1:=⟨f - 1,by omega⟩
      cases en with
      | false =>
        have HST2:=mh (hnen rfl);clear hd' hen hnen
        go_wp2_with fail
        go_roundw
        case rel=>exact⟨f+1,k+1,s', D', r2,tt,v,rfl,rfl,by go_num,by omega,hz4,HT.out,(show((((k+1:Nat):Int)+1==1)=false) from by rw[beq_eq_false_iff_ne];omega)▸HST2.out,HLN.out.1,HLN.out.2,by have:=HR2.out;rw[show(((k+1:Nat)):Int)=(k:Int)+1 by omega];exact this⟩
        case measure=>simp[szOf];omega
      | true =>
        obtain⟨h3,htot⟩:=hen rfl
        by_cases hte:tt.data.toList = []
        rotate_left
        ·have HP:=mh (show P=(Dec.none,(k:Int)+1+1,4) from by rw[← HR2.out];exact run_three h3 hte)
         have e0:¬tt.toList = []:=by rw[ByteArray.toList_eq];exact hte
         have e1:tt.toList.isEmpty=false:=by cases h:tt.toList with|nil=>exact absurd h e0|cons a b=>rfl
         have e2:(tt.toList == [])=false:=by simpa using e0
         obtain⟨t0,t0f,t1,t1f,t2,t2f,t3,t3f,t4,t4f⟩:=HT.out.res.f5;clear hte HS HR2 hd' hnen hen
         go_wp2_with fail
         exact post5 (v := .tuple #[.agg #[I O 0,I O 0,I O 0,.slice none 0 0,.slice none 0 0],I O ((k:Int)+1+1),I O 4]) HT.out.res rfl fun wf PB PK=>⟨by obtain⟨c0,c1,c2,c3,c4⟩:=PB.c5;simp[results,Tryz.results22,go_sem,c0,c1,c2,c3,c4],⟨⟨0,0,0,none,0,0,none,0,0⟩,by rw[HP.out];rfl,by rw[HP.out];exact DO.nil _ _,HT.out.low.trans (PK.below mle HT.out.low.size)⟩⟩
        have e0:tt.toList = []:=by rw[ByteArray.toList_eq];exact hte
        have e1:tt.toList.isEmpty=true:=by rw[e0];rfl
        have e2:(tt.toList == [])=true:=by rw[e0];rfl
        have hfin:(if chk D' ≠ 0 then (Dec.none,0,chk D') else if v≠totW D'.aw then (Dec.none,0,77) else (D', 0,0))=P:=by
         rw[← HR2.out,hte,run_nil];unfold fin;rw[if_neg (show ¬s'.part≠3 from fun h=>h h3),hd', htot]
        have CK:=mh (show Calls Tryz.prog 12 #[.agg #[I O r2.year,I O r2.farm,I O r2.ver,.slice r2.ap r2.an r2.ac,.slice r2.rp r2.rn r2.rc]] wy (IntG (chk D') wy) from refcheck35_any r2 D' wy HT.out.own.dv);unfold IntG at CK;obtain⟨ck,eck⟩:∃z,chk D' = z:=⟨_,rfl⟩;rw[eck]at hfin CK;obtain⟨b0,b1,b2,b3,b4⟩:=HT.out.box.c5;clear eck hte HS HR2 hd' hnen hen htot h3 HLN hz3 hz4 hf hft
        by_cases hck:ck=0
        rotate_left
        ·have HP:=mh (show P=(Dec.none,0,ck) from by rw[← hfin];exact if_pos hck)
         have hcb:(ck != 0)=true:=bne_iff_ne.2 hck;clear hfin hck
         go_wp2_with (go_at_call 12;(with_reducible refine cmo CK.out ?_);rintro e w3 ⟨rfl,hb3⟩;have HF3:=mh (HT.out.below hb3);clear hb3;obtain⟨b0,b1,b2,b3,b4⟩:=HF3.out.box.c5;obtain⟨t0,t0f,t1,t1f,t2,t2f,t3,t3f,t4,t4f⟩:=HF3.out.res.f5)
         exact post5 (v := .tuple #[.agg #[I O 0,I O 0,I O 0,.slice none 0 0,.slice none 0 0],I O 0,I O ck]) HF3.out.res rfl fun wf PB PK=>⟨by obtain⟨c0,c1,c2,c3,c4⟩:=PB.c5;simp[results,Tryz.results22,go_sem,c0,c1,c2,c3,c4],⟨⟨0,0,0,none,0,0,none,0,0⟩,by rw[HP.out];rfl,by rw[HP.out];exact DO.nil _ _,HF3.out.low.trans (PK.below mle HF3.out.low.size)⟩⟩
        subst hck;rw[if_neg (by simp)]at hfin
        go_upto_region 20 with (first|(go_at_call 12;(with_reducible refine cmo CK.out ?_);rintro e w3 ⟨rfl,hb3⟩;have HF3:=mh (HT.out.below hb3);clear hb3;obtain⟨b0,b1,b2,b3,b4⟩:=HF3.out.box.c5;obtain⟨t0,t0f,t1,t1f,t2,t2f,t3,t3f,t4,t4f⟩:=HF3.out.res.f5)|fail)
        have TT:=mh (fun (W:World) (hW:Below w3.heap.size w3 W)=>show Calls Tryz.prog 14 #[.agg #[I O r2.year,I O r2.farm,I O r2.ver,.slice r2.ap r2.an r2.ac,.slice r2.rp r2.rn r2.rc]] W (IntG (totW D'.aw) W) from reftotal35_any r2 D' W (HF3.out.below hW).own.dv);unfold IntG at TT;obtain⟨tw,etw⟩:∃z,totW D'.aw=z:=⟨_,rfl⟩;rw[etw]at hfin TT;clear etw CK
        by_cases htt:v=tw
        rotate_left
        ·have HP:=mh (show P=(Dec.none,0,77) from by rw[← hfin];exact if_pos htt)
         have htb:(tw != v)=true:=bne_iff_ne.2 (fun e=>htt e.symm);clear hfin htt
         go_wp2_with (go_at_call 14;(with_reducible refine cmo (TT.out _ (brf _ _)) ?_);rintro e w4 ⟨rfl,hb4⟩;have HF4:=mh (HF3.out.below hb4);clear hb4;obtain⟨b0,b1,b2,b3,b4⟩:=HF4.out.box.c5;obtain⟨t0,t0f,t1,t1f,t2,t2f,t3,t3f,t4,t4f⟩:=HF4.out.res.f5)
         exact post5 (v := .tuple #[.agg #[I O 0,I O 0,I O 0,.slice none 0 0,.slice none 0 0],I O 0,I O 77]) HF4.out.res rfl fun wf PB PK=>⟨by obtain⟨c0,c1,c2,c3,c4⟩:=PB.c5;simp[results,Tryz.results22,go_sem,c0,c1,c2,c3,c4],⟨⟨0,0,0,none,0,0,none,0,0⟩,by rw[HP.out];rfl,by rw[HP.out];exact DO.nil _ _,HF4.out.low.trans (PK.below mle HF4.out.low.size)⟩⟩
        have HP:=mh (show P=(D', 0,0) from by rw[← hfin];exact if_neg (fun h=>h htt));subst htt;have htb:(v != v)=false:=by simp
        clear hfin
        go_wp2_with (go_at_call 14;(with_reducible refine cmo (TT.out _ (brf _ _)) ?_);rintro e w4 ⟨rfl,hb4⟩;have HF4:=mh (HF3.out.below hb4);clear hb4;obtain⟨b0,b1,b2,b3,b4⟩:=HF4.out.box.c5;obtain⟨t0,t0f,t1,t1f,t2,t2f,t3,t3f,t4,t4f⟩:=HF4.out.res.f5)
        exact post5 (v := .tuple #[.agg #[I O r2.year,I O r2.farm,I O r2.ver,.slice r2.ap r2.an r2.ac,.slice r2.rp r2.rn r2.rc],I O 0,I O 0]) HF4.out.res rfl fun wf PB PK=>⟨by obtain⟨c0,c1,c2,c3,c4⟩:=PB.c5;simp[results,Tryz.results22,go_sem,c0,c1,c2,c3,c4],⟨r2,by rw[HP.out];rfl,by rw[HP.out];exact(HF4.out.own.but PK (by omega)).mono (by omega),HF4.out.low.trans (PK.below mle HF4.out.low.size)⟩⟩
end Go.Proofs.YtljibgchickcpaaGreatDoor
