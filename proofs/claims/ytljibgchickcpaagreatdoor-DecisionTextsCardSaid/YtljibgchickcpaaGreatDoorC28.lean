/- Packed. -/
import Derived.Test.YtljibgchickcpaaGreatDoorC24
import Derived.Test.YtljibgchickcpaaGreatDoorC27
set_option maxRecDepth 100000
set_option maxHeartbeats 8000000
open Go.Value renaming int → I
open Go.IntKind renaming i64 → O
namespace Go.Proofs.YtljibgchickcpaaGreatDoor
open Go.RowKit Sc As Dn
def ParseG (o:Dec × Int × Int) (w:World) (e:Ending) (w' : World):Prop:=∃r,e = .returned (.tuple #[.agg (dCells r).toArray,I O o.2.1,I O o.2.2])∧DO w.heap.size w' r o.1∧Below w.heap.size w w'
def szOf:Value→Nat | .string b=>b.size|_=>0
theorem stepW_len {s s' : PS}{l:List (List UInt8)}(h:stepW s l=some s'):s'.d.aw.length≤s.d.aw.length+1∧s'.d.rs.length≤s.d.rs.length+1:=by
 cases l with
 | nil=>cases h
 | cons x l =>
   rw[stepW_cons]at h
   split at h
   ·unfold stepD at h;split at h
    ·cases h;exact⟨Nat.le_succ _,Nat.le_succ _⟩
    ·cases h
   split at h
   ·unfold stepA at h;split at h
    ·cases h;exact⟨by simp,Nat.le_succ _⟩
    ·cases h
   split at h
   ·unfold stepR at h;split at h
    ·cases h;exact⟨Nat.le_succ _,by simp⟩
    ·cases h
   split at h
   ·unfold Dn.stepT at h;split at h
    ·cases h;exact⟨Nat.le_succ _,Nat.le_succ _⟩
    ·cases h
   ·cases h
theorem RdS.start (w:World):RdS (w.alloc (.cells #[I O 0,I O 0,I O 0,.slice none 0 0,.slice none 0 0,I O 0,I O 0] 90)) w.heap.size PS.start:=⟨⟨0,0,0,none,0,0,none,0,0⟩,Blk.new _ _ _,DO.nil _ _⟩
theorem cutY_any (tx:ByteArray)(W:World)(hE:Env W)(hs:tx.size≤16384)(h:¬Lib.indexByte tx.data.toList 10<0):Calls Tryz.prog 41 #[.string tx,.string ⟨#[10]⟩] W fun e w' => e = .returned (.tuple #[.string (bs (tx.data.toList.take (Lib.indexByte tx.data.toList 10).toNat)),.string (bs (tx.data.toList.drop ((Lib.indexByte tx.data.toList 10).toNat+1))),.bool true])∧∃n,w' = W.drewN n:=by
 obtain⟨m,hm⟩:=hE.ml;have:=Tryz.strings_Cut tx ⟨#[10]⟩ m W (by omega) hm;rw[show(⟨#[10]⟩:ByteArray).data.toList = [10] from rfl,cut_yes h]at this;exact this
theorem cutN_any (tx:ByteArray)(W:World)(hE:Env W)(hs:tx.size≤16384)(h:Lib.indexByte tx.data.toList 10<0):Calls Tryz.prog 41 #[.string tx,.string ⟨#[10]⟩] W fun e w' => e = .returned (.tuple #[.string (bs tx.data.toList),.string (bs []),.bool false])∧∃n,w' = W.drewN n:=by
 obtain⟨m,hm⟩:=hE.ml;have:=Tryz.strings_Cut tx ⟨#[10]⟩ m W (by omega) hm;rw[show(⟨#[10]⟩:ByteArray).data.toList = [10] from rfl,cut_no h]at this;exact this
theorem parse35_any (s:ByteArray)(w:World)(hE:Env w)(hs:s.size≤9223372036854775807):Calls Tryz.prog 21 #[.string s] w (ParseG (parse s.data.toList) w):=by
 have R0:=mh (Blk.new w #[I O 0,I O 0,I O 0,.slice none 0 0,.slice none 0 0] 26);have B0:=mh (show Below w.heap.size w (w.alloc (.cells #[I O 0,I O 0,I O 0,.slice none 0 0,.slice none 0 0] 26)) from(brf _ _).alloc mle _);have HE:=mh hE;have hsz0:0≤(s.size:Int):=inn _
 by_cases hlong:16384<s.size
 ·have HP:=mh (show parse s.data.toList=(Dec.none,0,1) from by unfold parse;rw[size_len,if_pos hlong])
  have hi:(16384:Int)<(s.size:Int):=by omega
  obtain⟨W0,eW0⟩:∃W,w.alloc (.cells #[I O 0,I O 0,I O 0,.slice none 0 0,.slice none 0 0] 26)=W:=⟨_,rfl⟩;rw[eW0]at R0 B0;have a0:(w.alloc (.cells #[I O 0,I O 0,I O 0,.slice none 0 0,.slice none 0 0] 26))=W0:=eW0;obtain⟨t0,t0f,t1,t1f,t2,t2f,t3,t3f,t4,t4f⟩:=R0.out.f5;clear hE
  go_enter Tryz.func21,Tryz.ntmps21
  go_upto_region 1 with fail
  clear a0 eW0
  go_wp2
  exact post5 (v := .tuple #[.agg #[I O 0,I O 0,I O 0,.slice none 0 0,.slice none 0 0],I O 0,I O 1]) R0.out rfl fun wf PB PK=>⟨by obtain⟨c0,c1,c2,c3,c4⟩:=PB.c5;simp[results,Tryz.results21,go_sem,c0,c1,c2,c3,c4],⟨⟨0,0,0,none,0,0,none,0,0⟩,by rw[HP.out];rfl,by rw[HP.out];exact DO.nil _ _,B0.out.trans (PK.below mle B0.out.size)⟩⟩
 obtain⟨P,hP⟩:∃P,parse s.data.toList=P:=⟨_,rfl⟩;have hrun0:run (s.size+1) 0 PS.start s.data.toList=P:=by rw[← hP];unfold parse;rw[size_len,if_neg hlong]
 rw[hP];have hi:¬((16384:Int)<(s.size:Int)):=by omega
 have RD0:=mh (RdS.start (w.alloc (.cells #[I O 0,I O 0,I O 0,.slice none 0 0,.slice none 0 0] 26)));have SZ0:(w.alloc (.cells #[I O 0,I O 0,I O 0,.slice none 0 0,.slice none 0 0] 26)).heap.size=w.heap.size+1:=by simp
 rw[SZ0]at RD0;have B1:=mh (show Below w.heap.size w ((w.alloc (.cells #[I O 0,I O 0,I O 0,.slice none 0 0,.slice none 0 0] 26)).alloc (.cells #[I O 0,I O 0,I O 0,.slice none 0 0,.slice none 0 0,I O 0,I O 0] 90)) from B0.out.alloc (by rw[SZ0];omega) _);have R1:=mh (R0.out.below (w' := (w.alloc (.cells #[I O 0,I O 0,I O 0,.slice none 0 0,.slice none 0 0] 26)).alloc (.cells #[I O 0,I O 0,I O 0,.slice none 0 0,.slice none 0 0,I O 0,I O 0] 90)) ((brf _ _).alloc mle _));clear hE hP B0 R0
 go_enter Tryz.func21,Tryz.ntmps21
 go_upto_region 4 with fail
 generalize (w.alloc (.cells #[I O 0,I O 0,I O 0,.slice none 0 0,.slice none 0 0] 26)).alloc (.cells #[I O 0,I O 0,I O 0,.slice none 0 0,.slice none 0 0,I O 0,I O 0] 90)=W1 at *;clear SZ0
 go_wp2
 go_loopw [0,6] (fun tv iv W=>∃(f k:Nat) (st:PS) (tx:ByteArray),tv = .string tx∧iv=I O (k:Int)∧tx.size<f∧tx.size+k≤16384∧RdS W (w.heap.size+1) st∧Blk W w.heap.size #[I O 0,I O 0,I O 0,.slice none 0 0,.slice none 0 0] 26∧st.d.aw.length≤k∧st.d.rs.length≤k∧Below w.heap.size w W∧run f (k:Int) st tx.data.toList=P) (fun tv _ _=>szOf tv)
 case atStart=>exact⟨s.size+1,0,PS.start,s,rfl,rfl,Nat.lt_succ_self _,by omega,RD0.out,R1.out,Nat.le_refl _,Nat.le_refl _,B1.out,hrun0⟩
 case round =>
  obtain⟨f,k,st,tx,rfl,rfl,hf,hk,hR,hRes,hal,hrl,hb,hrun⟩:=hrel;have HR:=mh hR;have HRES:=mh hRes;have HB:=mh hb;have HRUN:=mh hrun;have HAL:=mh (And.intro hal hrl);have HE1:=mh (HE.out.below hb);have hk0:(0:Int)≤(k:Int):=inn _;have hki:(k:Int)≤16384:=by omega
  have hwr:IntKind.i64.wrap ((k:Int)+1)=(k:Int)+1:=by rw[IntKind.wrap_i64];omega
  clear hR hRes hb hrun hal hrl RD0 R1 B1 hrun0;obtain⟨f,rfl⟩:∃f', f=f' + 1:=⟨f - 1,by omega⟩;have hft:=Nat.lt_succ_iff.1 hf
  by_cases htx:tx.size=0
  ·obtain rfl:tx=⟨#[]⟩:=ba_ext (List.length_eq_zero_iff.1 (by rw[size_len];exact htx))
   have hfin:=HRUN.out;rw[show(⟨#[]⟩:ByteArray).data.toList = [] from rfl,run_nil]at hfin;unfold fin at hfin;clear HRUN htx;obtain⟨r,hBk,hDO⟩:=HR.out.v;have c5:=hBk.cell 5;have c6:=hBk.cell 6;have d0:=hBk.cell 0;have d1:=hBk.cell 1;have d2:=hBk.cell 2;have d3:=hBk.cell 3;have d4:=hBk.cell 4
   simp at c5 c6 d0 d1 d2 d3 d4
   have hltr:=hBk.lt;have HBK:=mh hBk;have HDO:=mh hDO;clear hBk hDO;obtain⟨pt,D,tot⟩:=st
   by_cases hpt:pt=3
   rotate_left
   ·have HP:=mh (show P=(Dec.none,(k:Int)+1,4) from by rw[← hfin];exact if_pos hpt)
    have hpb:(pt != 3)=true:=bne_iff_ne.2 hpt;clear hfin hpt;obtain⟨t0,t0f,t1,t1f,t2,t2f,t3,t3f,t4,t4f⟩:=HRES.out.f5
    go_wp2
    exact post5 (v := .tuple #[.agg #[I O 0,I O 0,I O 0,.slice none 0 0,.slice none 0 0],I O ((k:Int)+1),I O 4]) HRES.out rfl fun wf PB PK=>⟨by obtain⟨c0,c1,c2,c3,c4⟩:=PB.c5;simp[results,Tryz.results21,go_sem,c0,c1,c2,c3,c4],⟨⟨0,0,0,none,0,0,none,0,0⟩,by rw[HP.out];rfl,by rw[HP.out];exact DO.nil _ _,HB.out.trans (PK.below mle HB.out.size)⟩⟩
   ·subst hpt
    rw[if_neg (by simp)]at hfin;have CK:=mh (show Calls Tryz.prog 11 #[.agg #[I O r.year,I O r.farm,I O r.ver,.slice r.ap r.an r.ac,.slice r.rp r.rn r.rc]] wr (IntG (chk D) wr) from check35_any r D wr HDO.out.dv);unfold IntG at CK;obtain⟨ck,eck⟩:∃z,chk D=z:=⟨_,rfl⟩;rw[show chk (⟨3,D,tot⟩:PS).d=ck from eck]at hfin;rw[eck]at CK
    by_cases hck:ck=0
    rotate_left
    ·have HP:=mh (show P=(Dec.none,0,ck) from by rw[← hfin];exact if_pos hck)
     have hcb:(ck != 0)=true:=bne_iff_ne.2 hck;clear hfin hck eck
     go_wp2_with (go_at_call 11;(with_reducible refine cmo CK.out ?_);rintro e w3 ⟨rfl,hb3⟩;have HB3:=mh (HB.out.trans (hb3.mono HB.out.size));have HRES3:=mh (HRES.out.below hb3);have HBK3:=mh (HBK.out.below hb3);have HDO3:=mh (HDO.out.below hb3);clear hb3 c5 c6 d0 d1 d2 d3 d4 hltr;obtain⟨t0,t0f,t1,t1f,t2,t2f,t3,t3f,t4,t4f⟩:=HRES3.out.f5;have c5:=HBK3.out.cell 5;have c6:=HBK3.out.cell 6;have d0:=HBK3.out.cell 0;have d1:=HBK3.out.cell 1;have d2:=HBK3.out.cell 2;have d3:=HBK3.out.cell 3;have d4:=HBK3.out.cell 4;simp only[List.getElem?_toArray,List.getElem?_cons_zero,List.getElem?_cons_succ]at c5 c6 d0 d1 d2 d3 d4;have hltr:=HBK3.out.lt)
     exact post5 (v := .tuple #[.agg #[I O 0,I O 0,I O 0,.slice none 0 0,.slice none 0 0],I O 0,I O ck]) HRES3.out rfl fun wf PB PK=>⟨by obtain⟨c0,c1,c2,c3,c4⟩:=PB.c5;simp[results,Tryz.results21,go_sem,c0,c1,c2,c3,c4],⟨⟨0,0,0,none,0,0,none,0,0⟩,by rw[HP.out];rfl,by rw[HP.out];exact DO.nil _ _,HB3.out.trans (PK.below mle HB3.out.size)⟩⟩
    ·subst hck
     rw[if_neg (by simp)]at hfin
     go_upto_region 16 with (first|(go_at_call 11;(with_reducible refine cmo CK.out ?_);rintro e w3 ⟨rfl,hb3⟩;have HB3:=mh (HB.out.trans (hb3.mono HB.out.size));have HRES3:=mh (HRES.out.below hb3);have HBK3:=mh (HBK.out.below hb3);have HDO3:=mh (HDO.out.below hb3);clear hb3 c5 c6 d0 d1 d2 d3 d4 hltr;obtain⟨t0,t0f,t1,t1f,t2,t2f,t3,t3f,t4,t4f⟩:=HRES3.out.f5;have c5:=HBK3.out.cell 5;have c6:=HBK3.out.cell 6;have d0:=HBK3.out.cell 0;have d1:=HBK3.out.cell 1;have d2:=HBK3.out.cell 2;have d3:=HBK3.out.cell 3;have d4:=HBK3.out.cell 4;simp only[List.getElem?_toArray,List.getElem?_cons_zero,List.getElem?_cons_succ]at c5 c6 d0 d1 d2 d3 d4;have hltr:=HBK3.out.lt)|fail)
     have TT:=mh (fun (W:World) (hW:Below w3.heap.size w3 W)=>show Calls Tryz.prog 13 #[.agg #[I O r.year,I O r.farm,I O r.ver,.slice r.ap r.an r.ac,.slice r.rp r.rn r.rc]] W (fun e w' => e = .returned (I O (totW D.aw))∧Below W.heap.size W w') from total35_any r D W (HDO3.out.below hW).dv);obtain⟨tw,etw⟩:∃z,totW D.aw=z:=⟨_,rfl⟩;rw[show totW (⟨3,D,tot⟩:PS).d.aw=tw from etw]at hfin;rw[etw]at TT;have KK:=mh (show ∀W:World,W.heap[w.heap.size+1]?=w3.heap[w.heap.size+1]?→(W.cell? ⟨w.heap.size+1,0,none⟩=some (I O r.year)∧W.cell? ⟨w.heap.size+1,1,none⟩=some (I O r.farm)∧W.cell? ⟨w.heap.size+1,2,none⟩=some (I O r.ver)∧W.cell? ⟨w.heap.size+1,3,none⟩=some (.slice r.ap r.an r.ac)∧W.cell? ⟨w.heap.size+1,4,none⟩=some (.slice r.rp r.rn r.rc)∧W.cell? ⟨w.heap.size+1,6,none⟩=some (I O tot)) from fun W h=>⟨(World.cell?_of_block (w:=w3) h).trans d0,(World.cell?_of_block (w:=w3) h).trans d1,(World.cell?_of_block (w:=w3) h).trans d2,(World.cell?_of_block (w:=w3) h).trans d3,(World.cell?_of_block (w:=w3) h).trans d4,(World.cell?_of_block (w:=w3) h).trans c6⟩);have hd3:Below w3.heap.size w3 w3.drew:=(brf _ _).drew;clear c5 c6 d0 d1 d2 d3 d4 t0 t1 t2 t3 t4 t0f t1f t2f t3f t4f eck etw
     go_region_held3 (fun w' => w'.cell? ⟨w.heap.size+1,0,none⟩=some (I O r.year)∧w'.cell? ⟨w.heap.size+1,1,none⟩=some (I O r.farm)∧w'.cell? ⟨w.heap.size+1,2,none⟩=some (I O r.ver)∧w'.cell? ⟨w.heap.size+1,3,none⟩=some (.slice r.ap r.an r.ac)∧w'.cell? ⟨w.heap.size+1,4,none⟩=some (.slice r.rp r.rn r.rc)∧w'.cell? ⟨w.heap.size+1,6,none⟩=some (I O tot)) (first|exact KK.out _ rfl|exact KK4.out) ((first|(go_at_call 13;(with_reducible refine cmo (TT.out _ hd3) ?_);rintro e w4 ⟨rfl,hb4'⟩;have hb4:Below w3.heap.size w3 w4:=hd3.trans hb4'; have KK4:=mh (KK.out w4 (hb4.block _ HBK3.out.lt));have HB4:=mh (HB3.out.trans (hb4.mono HB3.out.size));have HRES4:=mh (HRES3.out.below hb4);have HBK4:=mh (HBK3.out.below hb4);have HDO4:=mh (HDO3.out.below hb4);clear hb4 hb4')|fail))
     have d0:=HBK4.out.cell 0;have d1:=HBK4.out.cell 1;have d2:=HBK4.out.cell 2;have d3:=HBK4.out.cell 3;have d4:=HBK4.out.cell 4;simp only[List.getElem?_toArray,List.getElem?_cons_zero,List.getElem?_cons_succ]at d0 d1 d2 d3 d4;have hltr4:=HBK4.out.lt;obtain⟨t0,t0f,t1,t1f,t2,t2f,t3,t3f,t4,t4f⟩:=HRES4.out.f5
     by_cases htt:tot=tw
     rotate_left
     ·have HP:=mh (show P=(Dec.none,0,77) from by rw[← hfin];exact if_pos htt)
      have htb:(tot != tw)=true:=bne_iff_ne.2 htt;clear hfin htt
      go_wp2
      exact post5 (v := .tuple #[.agg #[I O 0,I O 0,I O 0,.slice none 0 0,.slice none 0 0],I O 0,I O 77]) HRES4.out rfl fun wf PB PK=>⟨by obtain⟨c0,c1,c2,c3,c4⟩:=PB.c5;simp[results,Tryz.results21,go_sem,c0,c1,c2,c3,c4],⟨⟨0,0,0,none,0,0,none,0,0⟩,by rw[HP.out];rfl,by rw[HP.out];exact DO.nil _ _,HB4.out.trans (PK.below mle HB4.out.size)⟩⟩
     ·subst htt
      have HP:=mh (show P=(D,0,0) from by rw[← hfin];exact if_neg (by simp));clear hfin
      go_wp2
      exact post5 (v := .tuple #[.agg #[I O r.year,I O r.farm,I O r.ver,.slice r.ap r.an r.ac,.slice r.rp r.rn r.rc],I O 0,I O 0]) HRES4.out rfl fun wf PB PK=>⟨by obtain⟨c0,c1,c2,c3,c4⟩:=PB.c5;simp[results,Tryz.results21,go_sem,c0,c1,c2,c3,c4],⟨r,by rw[HP.out];rfl,by rw[HP.out];exact(HDO4.out.but PK (by omega)).mono (by omega),HB4.out.trans (PK.below mle HB4.out.size)⟩⟩
  ·have hnl:tx.data.toList ≠ []:=fun e=>htx (by rw[← size_len,e];rfl)
   have hq1:(tx.toList == [])=false:=by rw[ByteArray.toList_eq];exact beq_eq_false_iff_ne.2 hnl
   have hq2:¬tx.toList = []:=by rw[ByteArray.toList_eq];exact hnl
   by_cases hix:Lib.indexByte tx.data.toList 10<0
   ·have HP:=mh (show P=(Dec.none,(k:Int)+1,4) from by rw[← HRUN.out];exact run_open hnl hix)
    have CU:=mh (cutN_any tx wr HE1.out (by omega) hix);clear hix hnl HRUN
    go_wp2_with (first|((go_at_call 41;(with_reducible refine cmo CU.out ?_);rintro e w2 ⟨rfl,nn,hw2⟩;have HB2:=mh (show Below w.heap.size w w2 from hw2▸below_drewN HB.out nn);have hbw:=(show Below wr.heap.size wr w2 from hw2▸below_drewN (brf _ _) nn);have HRES2:=mh (HRES.out.below hbw);have HR2:=mh (HR.out.below hbw);clear hw2 hbw);obtain⟨t0,t0f,t1,t1f,t2,t2f,t3,t3f,t4,t4f⟩:=HRES2.out.f5)|fail)
    exact post5 (v := .tuple #[.agg #[I O 0,I O 0,I O 0,.slice none 0 0,.slice none 0 0],I O ((k:Int)+1),I O 4]) HRES2.out rfl fun wf PB PK=>⟨by obtain⟨c0,c1,c2,c3,c4⟩:=PB.c5;simp[results,Tryz.results21,go_sem,c0,c1,c2,c3,c4],⟨⟨0,0,0,none,0,0,none,0,0⟩,by rw[HP.out];rfl,by rw[HP.out];exact DO.nil _ _,HB2.out.trans (PK.below mle HB2.out.size)⟩⟩
   ·have CU:=mh (cutY_any tx wr HE1.out (by omega) hix)
    have hil:=ix_lt hix;rw[size_len]at hil;obtain⟨one,eo⟩:∃o,bs (tx.data.toList.take (Lib.indexByte tx.data.toList 10).toNat)=o:=⟨_,rfl⟩;obtain⟨rest,er⟩:∃o,bs (tx.data.toList.drop ((Lib.indexByte tx.data.toList 10).toNat+1))=o:=⟨_,rfl⟩;have hos:one.size≤16384:=by rw[← eo,bs_size,List.length_take,size_len];omega
    have hrs:rest.size+1≤tx.size:=by rw[← er,bs_size,List.length_drop,size_len];omega
    have hrl:rest.data.toList=tx.data.toList.drop ((Lib.indexByte tx.data.toList 10).toNat+1):=by rw[← er,bs_list]
    have hol:one.data.toList=tx.data.toList.take (Lib.indexByte tx.data.toList 10).toNat:=by rw[← eo,bs_list]
    rw[eo,er]at CU;have LN:=mh (fun (W:World) (hR:RdS W (w.heap.size+1) st) (hB:Below w.heap.size w W)=>rdline_any (w.heap.size+1) st one W hR (HE.out.below hB) hos (by have:=HAL.out.1;omega) (by have:=HAL.out.2;omega));rw[hol]at LN;have RN:=fun (s' : PS)=>run_step (f:=f) (n:=(k:Int)) (s:=st) (s' := s') hnl hix
    have RB:=run_bad (f:=f) (n:=(k:Int)) (s:=st) hnl hix;obtain⟨o,eo2⟩:∃o,stepW st (Wo.pcs 32 [] (tx.data.toList.take (Lib.indexByte tx.data.toList 10).toNat))=o:=⟨_,rfl⟩;rw[eo2]at RN RB LN;unfold StepG at LN;clear eo er hol hnl hix
    cases o with
    | none =>
      have HP:=mh (show P=(Dec.none,(k:Int)+1,4) from by rw[← HRUN.out];exact RB rfl);clear RN RB HRUN eo2
      go_wp2_with (first|(go_at_call 41;(with_reducible refine cmo CU.out ?_);rintro e w2 ⟨rfl,nn,hw2⟩;have HB2:=mh (show Below w.heap.size w w2 from hw2▸below_drewN HB.out nn);have hbw:=(show Below wr.heap.size wr w2 from hw2▸below_drewN (brf _ _) nn);have HRES2:=mh (HRES.out.below hbw);have HR2:=mh (HR.out.below hbw);clear hw2 hbw)|((go_at_call 42;(with_reducible refine cmo (LN.out w2 HR2.out HB2.out) ?_);rintro e w3 ⟨rfl,hst,hb3⟩;have HB3:=mh (show Below w.heap.size w w3 from HB2.out.trans (hb3.mono (Nat.le_succ _)));have HRES3:=mh (show Blk w3 w.heap.size #[I O 0,I O 0,I O 0,.slice none 0 0,.slice none 0 0] 26 from(hb3.block _ (Nat.lt_succ_self _)).trans HRES2.out);have HST:=mh hst;clear hst hb3);obtain⟨t0,t0f,t1,t1f,t2,t2f,t3,t3f,t4,t4f⟩:=HRES3.out.f5)|fail)
      exact post5 (v := .tuple #[.agg #[I O 0,I O 0,I O 0,.slice none 0 0,.slice none 0 0],I O ((k:Int)+1),I O 4]) HRES3.out rfl fun wf PB PK=>⟨by obtain⟨c0,c1,c2,c3,c4⟩:=PB.c5;simp[results,Tryz.results21,go_sem,c0,c1,c2,c3,c4],⟨⟨0,0,0,none,0,0,none,0,0⟩,by rw[HP.out];rfl,by rw[HP.out];exact DO.nil _ _,HB3.out.trans (PK.below mle HB3.out.size)⟩⟩
    | some st' =>
      have HN:=mh (show run f ((k:Int)+1) st' rest.data.toList=P from by rw[← HRUN.out,hrl];exact(RN st' rfl).symm);have HL:=mh (stepW_len eo2);clear RN RB HRUN eo2 hrl
      go_wp2_with (first|(go_at_call 41;(with_reducible refine cmo CU.out ?_);rintro e w2 ⟨rfl,nn,hw2⟩;have HB2:=mh (show Below w.heap.size w w2 from hw2▸below_drewN HB.out nn);have hbw:=(show Below wr.heap.size wr w2 from hw2▸below_drewN (brf _ _) nn);have HRES2:=mh (HRES.out.below hbw);have HR2:=mh (HR.out.below hbw);clear hw2 hbw)|(go_at_call 42;(with_reducible refine cmo (LN.out w2 HR2.out HB2.out) ?_);rintro e w3 ⟨rfl,hst,hb3⟩;have HB3:=mh (show Below w.heap.size w w3 from HB2.out.trans (hb3.mono (Nat.le_succ _)));have HRES3:=mh (show Blk w3 w.heap.size #[I O 0,I O 0,I O 0,.slice none 0 0,.slice none 0 0] 26 from(hb3.block _ (Nat.lt_succ_self _)).trans HRES2.out);have HST:=mh hst;clear hst hb3)|fail)
      go_roundw
      case rel=>exact⟨f,k+1,st', rest,rfl,by go_num,by omega,by omega,HST.out st' rfl,HRES3.out,by have:=HL.out.1;have:=HAL.out.1;omega,by have:=HL.out.2;have:=HAL.out.2;omega,HB3.out,by have:=HN.out;push_cast;exact this⟩
      case measure=>simp[szOf];omega
theorem ret_str {a b:ByteArray}(h:a=b):Ending.returned (.string a) = .returned (.string b):=by rw[h]
theorem itoa_small {n:Int}(h0:0≤n)(h:n<10):Lib.itoa n = [Wo.dch (n.toNat)]:=by
 unfold Lib.itoa;rw[if_neg (by omega),Lib.decDigits,dif_pos (by omega)]
 rfl
theorem conv1 (W:World)(b d:Nat)(hd:d<10)(h:W.cell? ⟨b,0,none⟩=some (.int .u8 (48+(d:Int)))):(convert 43 9 (.slice (some ⟨b,0,none⟩) 1 1)).run Tryz.prog W = .ok (.string ⟨#[Wo.dch (d)]⟩) W:=by
 have e:(Wo.dch d).toNat=48+d:=Wo.dig_toNat d hd
 have:=run_convert_bytes_back (P:=Tryz.prog) W 43 9 5 ⟨b,0,none⟩ 1 [Wo.dch (d)] Tryz.underlying43 Tryz.underlying5 Tryz.underlying9 (fun j hj=>by
  match j,hj with
  | 0,_ =>
    show W.cell? ⟨b,0,none⟩=some (.int .u8 (((Wo.dch (d)).toNat:Nat):Int))
    rw[h,e];simp)
 exact this
theorem app1 (l:List UInt8)(c:UInt8):(⟨l.toArray⟩:ByteArray)++⟨#[c]⟩=⟨(l ++ [c]).toArray⟩:=by rw[ByteArray.mk_append_mk]
theorem itoa_big {n:Int}(h:10≤n):Lib.itoa n=Lib.itoa (n / 10) ++ [Wo.dch ((n % 10).toNat)]:=by
 unfold Lib.itoa;rw[if_neg (by omega),if_neg (by omega),Lib.decDigits,dif_neg (by omega)];have e1:n.toNat / 10=(n / 10).toNat:=by omega
 have e2:n.toNat % 10=(n % 10).toNat:=by omega
 rw[e1,e2]
 rfl
theorem itoa_neg1 {u:Nat}(h0:0<u)(h:u<10):Lib.itoa (-(u:Int)) = [45,Wo.dch u]:=by
 unfold Lib.itoa;rw[if_pos (by omega),show(-(u:Int)).natAbs=u by omega,Lib.decDigits,dif_pos h]
 rfl
theorem itoa_neg2 {u:Nat}(h:10≤u):Lib.itoa (-(u:Int))=Lib.itoa (-((u / 10:Nat):Int)) ++ [Wo.dch (u % 10)]:=by
 unfold Lib.itoa;rw[if_pos (by omega),if_pos (by omega),show(-(u:Int)).natAbs=u by omega,show(-((u / 10:Nat):Int)).natAbs=u / 10 by omega,Lib.decDigits,dif_neg (by omega)]
 rfl
theorem refdecimal_any (N:Nat):∀(n:Int) (w:World),n.natAbs<N → -9223372036854775808≤n→n≤9223372036854775807→Calls Tryz.prog 99 #[I O n] w (DecGive n w):=by
 induction N with
 | zero=>intro n w h;omega
 | succ N ih =>
   intro n w h h0 h1
   by_cases hn:n<0
   ·by_cases h10 : -10<n
    ·obtain⟨d,rfl⟩:∃d:Nat,n = -(d:Int):=⟨n.natAbs,by omega⟩
     have HS:=mh (itoa_neg1 (u:=d) (by omega) (by omega));have hb:IntKind.u8.wrap (48+(d:Int))=48+d:=by rw[IntWalk.u8_in];omega
     have hq2:(-(d:Int)).tmod 10 = -(d:Int):=by rw[Int.neg_tmod,Int.tmod_eq_emod_of_nonneg (by omega)];omega
     have CV:=conv1 (w.alloc (Obj.cells #[.int .u8 (48+(d:Int))] 5)) w.heap.size d (by omega) (by go_simp);clear ih h h0 h1
     go_enter Tryz.func99,Tryz.ntmps99
     go_wp2
     go_ret
     exact⟨ret_str (by rw[HS.out];rfl),(brf _ _).alloc mle _⟩
    ·obtain⟨q,m,rfl,hm10⟩:∃q m:Nat,n = -((10*q+m:Nat):Int)∧m<10:=⟨n.natAbs / 10,n.natAbs % 10,by omega,by omega⟩
     have hd:Lib.itoa (-((10*q+m:Nat):Int))=Lib.itoa (-(q:Int)) ++ [Wo.dch m]:=by
      rw[itoa_neg2 (by omega),show(10*q+m) / 10=q by omega,show(10*q+m) % 10=m by omega]
     have HI:=mh (fun (W:World)=>ih (-(q:Int)) W (by omega) (by omega) (by omega));obtain⟨sq,esq⟩:∃x:ByteArray,(⟨(Lib.itoa (-(q:Int))).toArray⟩:ByteArray)=x:=⟨_,rfl⟩;have hsz:sq.size+1≤9223372036854775807:=by
      have:=(Wo.itoa_len20 (-(q:Int)) (by omega) (by omega)).2;rw[← esq];show(Lib.itoa (-(q:Int))).toArray.size+1≤_;simp;omega
     have ES:=mh esq;clear esq;have HF:=mh (show sq++⟨#[Wo.dch m]⟩=⟨(Lib.itoa (-((10*q+m:Nat):Int))).toArray⟩ by rw[hd,← ES.out,app1]);have hq1:(-((10*q+m:Nat):Int)).tdiv 10 = -(q:Int):=by rw[Int.neg_tdiv,Int.tdiv_eq_ediv_of_nonneg (by omega)];omega
     have hq2:(-((10*q+m:Nat):Int)).tmod 10 = -(m:Int):=by rw[Int.neg_tmod,Int.tmod_eq_emod_of_nonneg (by omega)];omega
     have hq0:(0:Int)≤q:=by omega
     obtain⟨n,en⟩:∃n:Int, -((10*q+m:Nat):Int)=n:=⟨_,rfl⟩;have hb:IntKind.u8.wrap (48+(m:Int))=48+m:=by rw[IntWalk.u8_in];omega
     have hb2:IntKind.i64.wrap (48+(m:Int))=48+m:=IntWalk.i64_in _ ⟨by omega,by omega⟩;have hb3:IntKind.i64.wrap (-(q:Int)) = -(q:Int):=IntWalk.i64_in _ ⟨by omega,by omega⟩;have hb4:IntKind.i64.wrap (m:Int)=m:=IntWalk.i64_in _ ⟨by omega,by omega⟩;have hn' : n<0:=by omega
     have h10' : ¬ -10<n:=by omega
     have CA:=conv1 ((w.alloc (Obj.cells #[.int .u8 (48+(m:Int))] 5)).drew) w.heap.size m hm10 (by go_simp);have CH:((w.alloc (Obj.cells #[.int .u8 (48+(m:Int))] 5)).drew).cell? ⟨w.heap.size,0,none⟩=some (.int .u8 (48+(m:Int))):=by go_simp
     have HC:=mh CH;clear CH;rw[en]at hd hq1 hq2 h0 h1;rw[en]at HF;rw[en];clear hd ih h en hn h10 h0 h1
     go_enter Tryz.func99,Tryz.ntmps99
     go_wp2_with fail
     go_region_with (first|(go_at_call 99;(with_reducible refine cmo (HI.out w.drew) ?_);rintro e w1 ⟨rfl,hb1⟩;rw[ES.out];have CW:=conv1 (w1.alloc (Obj.cells #[.int .u8 (48+(m:Int))] 5)) w1.heap.size m hm10 (by go_simp))|(go_at_call 99;(with_reducible refine cmo (HI.out ((w.alloc (Obj.cells #[.int .u8 (48+(m:Int))] 5)).drew)) ?_);rintro e w1 ⟨rfl,hb1⟩;rw[ES.out];have CW:=conv1 w1 w.heap.size m hm10 ((hb1.cell (p:=⟨w.heap.size,0,none⟩) (by simp)).trans HC.out)))
     all_goals
      go_wp2
      go_ret
      refine⟨ret_str HF.out,?_⟩
      first
       | exact((brf _ w).drew.trans (hb1.mono mle)).alloc (by have:=hb1.size;simpa using this) _
       | exact(((brf _ w).alloc mle _).drew).trans (hb1.mono (by simp))
   ·by_cases h10:n<10
    ·obtain⟨d,rfl⟩:∃d:Nat,n=d:=⟨n.toNat,by omega⟩
     have HS:=mh (itoa_small (n:=d) (by omega) h10);have hb:IntKind.u8.wrap (48+(d:Int))=48+d:=by rw[IntWalk.u8_in];omega
     have CV:=conv1 (w.alloc (Obj.cells #[.int .u8 (48+(d:Int))] 5)) w.heap.size d (by omega) (by go_simp);clear ih h h0 h1
     go_enter Tryz.func99,Tryz.ntmps99
     go_wp2
     go_ret
     exact⟨ret_str (by rw[HS.out];rfl),(brf _ _).alloc mle _⟩
    ·obtain⟨q,m,rfl,hm10⟩:∃q m:Nat,n=10*(q:Int)+m∧m<10:=⟨(n / 10).toNat,(n % 10).toNat,by omega,by omega⟩
     have hd:Lib.itoa (10*(q:Int)+m)=Lib.itoa q ++ [Wo.dch m]:=by
      rw[itoa_big (by omega),show(10*(q:Int)+m) / 10=q by omega,show((10*(q:Int)+m) % 10).toNat=m by omega]
     have HI:=mh (fun (W:World)=>ih (q:Int) W (by omega) (by omega) (by omega));obtain⟨sq,esq⟩:∃x:ByteArray,(⟨(Lib.itoa q).toArray⟩:ByteArray)=x:=⟨_,rfl⟩;have hsz:sq.size+1≤9223372036854775807:=by
      have:=(Wo.itoa_len20 (q:Int) (by omega) (by omega)).2;rw[← esq];show(Lib.itoa (q:Int)).toArray.size+1≤_;simp;omega
     have ES:=mh esq;clear esq;have HF:=mh (show sq++⟨#[Wo.dch m]⟩=⟨(Lib.itoa (10*(q:Int)+m)).toArray⟩ by rw[hd,← ES.out,app1]);have hq1:(10*(q:Int)+m).tdiv 10=q:=by rw[Int.tdiv_eq_ediv_of_nonneg (by omega)];omega
     have hq2:(10*(q:Int)+m).tmod 10=m:=by rw[Int.tmod_eq_emod_of_nonneg (by omega)];omega
     have hq0:(0:Int)≤q:=by omega
     obtain⟨n,en⟩:∃n:Int,10*(q:Int)+m=n:=⟨_,rfl⟩;have hb:IntKind.u8.wrap (48+(m:Int))=48+m:=by rw[IntWalk.u8_in];omega
     have hb2:IntKind.i64.wrap (48+(m:Int))=48+m:=IntWalk.i64_in _ ⟨by omega,by omega⟩;have hb3:IntKind.i64.wrap (q:Int)=q:=IntWalk.i64_in _ ⟨by omega,by omega⟩;have hb4:IntKind.i64.wrap (m:Int)=m:=IntWalk.i64_in _ ⟨by omega,by omega⟩;have hn' : ¬n<0:=by omega
     have h10' : ¬n<10:=by omega
     have CA:=conv1 ((w.alloc (Obj.cells #[.int .u8 (48+(m:Int))] 5)).drew) w.heap.size m hm10 (by go_simp);have CH:((w.alloc (Obj.cells #[.int .u8 (48+(m:Int))] 5)).drew).cell? ⟨w.heap.size,0,none⟩=some (.int .u8 (48+(m:Int))):=by go_simp
     have HC:=mh CH;clear CH;rw[en]at hd hq1 hq2 h0 h1;rw[en]at HF;rw[en];clear hd ih h en hn h10 h0 h1
     go_enter Tryz.func99,Tryz.ntmps99
     go_wp2_with fail
     go_region_with (first|(go_at_call 99;(with_reducible refine cmo (HI.out w.drew) ?_);rintro e w1 ⟨rfl,hb1⟩;rw[ES.out];have CW:=conv1 (w1.alloc (Obj.cells #[.int .u8 (48+(m:Int))] 5)) w1.heap.size m hm10 (by go_simp))|(go_at_call 99;(with_reducible refine cmo (HI.out ((w.alloc (Obj.cells #[.int .u8 (48+(m:Int))] 5)).drew)) ?_);rintro e w1 ⟨rfl,hb1⟩;rw[ES.out];have CW:=conv1 w1 w.heap.size m hm10 ((hb1.cell (p:=⟨w.heap.size,0,none⟩) (by simp)).trans HC.out)))
     all_goals
      go_wp2
      go_ret
      refine⟨ret_str HF.out,?_⟩
      first
       | exact((brf _ w).drew.trans (hb1.mono mle)).alloc (by have:=hb1.size;simpa using this) _
       | exact(((brf _ w).alloc mle _).drew).trans (hb1.mono (by simp))
namespace Dn
theorem dv_lt:∀(n:Nat) (l:List UInt8),l.length=n→l.all dg=true→dv l<10 ^ n
 | 0,l,hn,_=>by
   have:l = []:=List.length_eq_zero_iff.1 hn;subst this;decide
 | n+1,l,hn,h=>by
   obtain⟨l', c,rfl⟩:∃l' c,l=l' ++ [c]:=by
    have hne:l ≠ []:=fun e=>by rw[e]at hn;simp at hn
    exact⟨l.dropLast,l.getLast hne,(List.dropLast_concat_getLast hne).symm⟩
   have hl' : l'.length=n:=by rw[lap]at hn;simp at hn;omega
   rw[List.all_append,Bool.and_eq_true]at h;have ih:=dv_lt n l' hl' h.1;have hc:dg c=true:=by simpa using h.2
   have h9:c.toNat - 48<10:=by unfold dg at hc;simp at hc;omega
   rw[dv_snoc,Nat.pow_succ];omega
end Dn
def DecmG (l:List UInt8) (w:World) (e:Ending) (w' : World):Prop:=∃v:Int,e = .returned (.tuple #[I O v,.bool (nb l)])∧(nb l=true→v=nv l)∧w=w'
theorem DecmG.no {l:List UInt8}{w:World}{v:Int}(h:nb l=false):DecmG l w (.returned (.tuple #[I O v,.bool false])) w:=⟨v,by rw[h],(fun h2=>by rw[h]at h2;cases h2),rfl⟩
theorem refdecimal35_any (s:ByteArray)(w:World)(hs:s.size≤9223372036854775807):Calls Tryz.prog 98 #[.string s] w (DecmG s.data.toList w):=by
 have hlen:s.data.toList.length=s.size:=size_len s
 by_cases h1:s.size<1
 ·have HN:=mh (show nb s.data.toList=false from by unfold nb canon;rw[hlen,dqf (by omega:¬1≤s.size)];rfl)
  have h1' : (s.size:Int)<1:=by omega
  clear h1 hlen
  go_enter Tryz.func98,Tryz.ntmps98
  go_wp2
  go_ret2
  exact DecmG.no HN.out
 have g1:¬(s.size:Int)<1:=by omega
 by_cases h2:17<s.size
 ·have HN:=mh (show nb s.data.toList=false from by unfold nb;rw[hlen,dqf (by omega:¬s.size≤17)];simp)
  have h2' : (17:Int)<(s.size:Int):=by omega
  clear h1 h2 hlen
  go_enter Tryz.func98,Tryz.ntmps98
  go_wp2
  go_ret2
  exact DecmG.no HN.out
 have g2:¬(17:Int)<(s.size:Int):=by omega
 have h0:0<s.size:=by omega
 have hhd:s.data.toList.head?=some s[0]:=by
  rw[List.head?_eq_getElem?,List.getElem?_eq_getElem (by omega)];rfl
 by_cases h3:1<s.size∧((s[0]).toNat:Int)=48
 ·obtain⟨h3,h48⟩:=h3
  have HN:=mh (show nb s.data.toList=false from by
   have e:s[0]=48:=UInt8.toNat_inj.1 (by have:(48:UInt8).toNat=48:=rfl;omega);unfold nb canon
   rw[hhd,e,hlen,dqf (by omega:¬s.size=1)];simp)
  have h3' : (1:Int)<(s.size:Int):=by omega
  have b48:(((s[0]).toNat:Int)==48)=true:=by rw[h48];rfl
  clear h1 h2 hlen h48 hhd
  go_enter Tryz.func98,Tryz.ntmps98
  go_wp2
  go_ret2
  exact DecmG.no HN.out
 have CN:=mh (show(decide (1≤s.data.toList.length)&&(decide (s.data.toList.length=1)||decide (s.data.toList.head?≠some 48)))=true from by
  rw[hlen,dqt (by omega:1≤s.size),hhd]
  by_cases h4:s.size=1
  ·rw[dqt h4];rfl
  ·have:s[0]≠48:=fun e=>h3 ⟨by omega,by rw[e];rfl⟩
   simp[this])
 have g3:¬(1:Int)<(s.size:Int)∨((1:Int)<(s.size:Int)∧(((s[0]).toNat:Int)==48)=false):=by
  by_cases h4:1<s.size
  ·exact .inr ⟨by omega,beq_eq_false_iff_ne.2 fun e=>h3 ⟨h4,e⟩⟩
  ·exact .inl (by omega)
 have hjs:s.size≤17:=by omega
 have HLEN:=mh hlen;clear h1 h2 h3 hhd hlen
 rcases g3 with g3|⟨g3,g4⟩
 all_goals
  go_enter Tryz.func98,Tryz.ntmps98
  go_wp2
  go_loopw [4,5] (fun n i W=>∃j:Nat,j≤s.size∧i=I O (j:Int)∧n=I O ((dv (s.data.toList.take j):Nat):Int)∧(s.data.toList.take j).all dg=true∧w=W) (fun _ i _=>s.size - (intOf i).toNat)
  case atStart=>exact⟨0,Nat.zero_le _,rfl,rfl,rfl,rfl⟩
  case round =>
   obtain⟨j,hj,rfl,rfl,hall,rfl⟩:=hrel;have HA:=mh hall;have hjI:(0:Int)≤(j:Int):=inn _;have hbd:=dv_lt j (s.data.toList.take j) (by rw[List.length_take,HLEN.out];omega) hall;obtain⟨v,ev⟩:∃x,dv (s.data.toList.take j)=x:=⟨_,rfl⟩;rw[ev]at hbd ⊢;have EV:=mh ev;have hv0:(0:Int)≤(v:Int):=inn _;clear ev hall
   by_cases hlt:j<s.size
   ·have hltI:(j:Int)<(s.size:Int):=by omega
    have h16:(v:Int)<10000000000000000:=by
     have h1:10 ^ j≤10 ^ 16:=Nat.pow_le_pow_right (by omega) (by omega);have h2:(10:Nat) ^ 16=10000000000000000:=by decide
     omega
    have hsn:=mh (Wo.take_snoc_bytes s j hlt);clear hbd hltI
    by_cases c1:48≤((s[j]).toNat:Int)∧((s[j]).toNat:Int)≤57
    ·obtain⟨c1,c2⟩:=c1
     have hd:dg s[j]=true:=by unfold dg;simp only[Bool.and_eq_true,decide_eq_true_eq];omega
     have hu:IntKind.u8.wrap (((s[j]).toNat:Int) - 48)=((s[j]).toNat:Int) - 48:=by rw[IntWalk.u8_in];omega
     have hw1:IntKind.i64.wrap (((s[j]).toNat:Int) - 48)=((s[j]).toNat:Int) - 48:=IntWalk.i64_in _ ⟨by omega,by omega⟩;have hw2:IntKind.i64.wrap (10*(v:Int))=10*(v:Int):=IntWalk.i64_in _ ⟨by omega,by omega⟩;have hw3:IntKind.i64.wrap (10*(v:Int)+(((s[j]).toNat:Int) - 48))=10*(v:Int)+(((s[j]).toNat:Int) - 48):=IntWalk.i64_in _ ⟨by omega,by omega⟩
     have HF:=mh (show((dv (s.data.toList.take (j+1)):Nat):Int)=10*(v:Int)+(((s[j]).toNat:Int) - 48) from by
      rw[hsn.out,dv_snoc,EV.out];push_cast;omega)
     have HG:=mh (show(s.data.toList.take (j+1)).all dg=true from by rw[hsn.out,List.all_append,HA.out,Bool.true_and];simp[hd]);clear hd h16
     go_wp2
     go_roundw
     case rel=>exact⟨j+1,by omega,by go_num,by rw[HF.out],HG.out,by first|rfl|trivial⟩
     case measure=>simp[intOf];omega
    ·have HB:=mh (show nb s.data.toList=false from by
      have hd:dg s[j]=false:=by unfold dg;simp only[Bool.and_eq_false_iff,decide_eq_false_iff_not];omega
      have:s.data.toList.all dg=false:=by
       rw[Bool.eq_false_iff];intro ha;rw[List.all_eq_true]at ha;have hm:s[j]∈s.data.toList:=List.getElem_mem (by rw[HLEN.out];omega);rw[ha _ hm]at hd
       cases hd
      unfold nb canon
      rw[this];simp)
     have c1' : ((s[j]).toNat:Int)<48∨57<((s[j]).toNat:Int):=by omega
     clear c1 h16
     rcases c1' with c1|c1
     all_goals
      go_wp2
      go_ret2
      exact DecmG.no HB.out
   ·obtain rfl:j=s.size:=by omega
    rw[List.take_of_length_le (by rw[HLEN.out];omega)]at HA EV
    have HN:=mh (show nb s.data.toList=decide ((v:Int)≤1125899906842624) from by
     have cn:=CN.out;unfold nb canon;rw[HA.out,EV.out,dqt (by rw[HLEN.out];omega:s.data.toList.length≤17)];rw[Bool.and_true,Bool.and_true,cn,Bool.true_and]
     exact decide_eq_decide.2 (by omega))
    clear hbd
    go_wp2
    go_ret2
    exact⟨(v:Int),by rw[HN.out];rfl,(fun _=>by unfold nv;rw[EV.out]),rfl⟩
theorem refread35_any (q:Option Addr)(x:ByteArray)(ws:List ByteArray)(m c n:Nat)(w:World)(hm:ws.length=m)(h:Recs SB w q (x::ws))(hz:∀y∈ws,y.size≤16384)(hl:m≤20000)(hn20:n≤20000) :
  Calls Tryz.prog 75 #[.slice q (m+1) c,I O (n:Int)] w (NumsG (tl ws) n w):=by
 have H:=mh h;have HZ:=mh hz;have hn0:0≤(n:Int):=inn _;have hm0:0≤(m:Int):=inn _;have hwn:IntKind.i64.wrap ((n:Int)+1)=(n:Int)+1:=IntWalk.i64_in _ ⟨by omega,by omega⟩;clear h hz
 by_cases hn:m=n
 rotate_left
 ·have hnb:((m:Int)+1 != (n:Int)+1)=true:=by simp;omega
  have HF:=mh (show numsB (tl ws) n=false from by unfold numsB tl;rw[List.length_map,dqf (by omega:¬ws.length=n)];rfl);clear hn
  go_enter Tryz.func75,Tryz.ntmps75
  go_wp2
  go_ret2
  exact⟨.slice none 0 0,by rw[HF.out];rfl,(fun h=>by rw[HF.out]at h;cases h),brf _ _⟩
 subst hn;have HL:=mh (show(tl ws).length=m from by unfold tl;rw[List.length_map,hm]);have HM:=mh hm;clear hm
 go_enter Tryz.func75,Tryz.ntmps75
 go_wp2
 go_loopw [6,7] (fun v iv W=>∃k:Nat,k≤m∧iv=I O ((k:Int)+1)∧OwnR SI W 3 w.heap.size v ((tl (ws.take k)).map nv)∧(tl (ws.take k)).all nb=true∧Below w.heap.size w W) (fun _ iv _=>m+1 - (intOf iv).toNat)
 case atStart=>exact⟨0,Nat.zero_le _,rfl,OwnR.nil _ _ _,rfl,brf _ _⟩
 case round =>
  obtain⟨k,hk,rfl,hO,hall,hb⟩:=hrel;have HO:=mh hO;have HB:=mh hb;have HA:=mh hall;have hk0:(0:Int)≤(k:Int):=inn _;have hk00:(0:Int)≤(k:Int)+1:=by omega
  have hkt:((k:Int)+1).toNat=k+1:=by omega
  by_cases hlt:k<m
  ·have hk1:(k:Int)+1<(m:Int)+1:=by omega
   have hkl:k<ws.length:=by rw[HM.out];exact hlt
   obtain⟨b,off,rfl,hbl,hc⟩:=SB_at (H.out.below hb) (k:=k+1) (by rw[List.length_cons];omega);rw[List.getElem_cons_succ]at hc;have ST:=mh (show tl (ws.take (k+1))=tl (ws.take k) ++ [ws[k].data.toList] from by unfold tl;rw[tsg hkl,List.map_append];rfl);have MEM:=mh (show ws[k].data.toList∈tl ws from by unfold tl;exact List.mem_map.2 ⟨_,List.getElem_mem hkl,rfl⟩);have hsz:=HZ.out ws[k] (List.getElem_mem hkl);have NC:=mh (refdecimal35_any ws[k] wr (by omega));unfold DecmG at NC;have LEN:=mh (show((tl (ws.take k)).map nv).length≤20000 from by unfold tl;simp only[List.length_map,List.length_take];omega);obtain⟨y,ey⟩:∃y,ws[k]=y:=⟨_,rfl⟩;rw[ey]at hc ST MEM NC;clear ey hsz hO hall hb hbl hkl
   cases hv:nb y.data.toList
   ·rw[hv]at NC
    have HF:=mh (show numsB (tl ws) m=false from by
     unfold numsB
     rw[show(tl ws).all nb=false from by
      rw[Bool.eq_false_iff];intro e;have:=List.all_eq_true.1 e _ MEM.out
      rw[hv]at this;cases this]
     simp)
    clear hv
    go_wp2_with (go_at_call 98;(with_reducible refine cmo NC.out ?_);rintro e w3 ⟨z,rfl, -,rfl⟩)
    go_ret2
    exact⟨.slice none 0 0,by rw[HF.out];rfl,(fun h=>by rw[HF.out]at h;cases h),HB.out⟩
   ·rw[hv]at NC
    have HV:=mh hv;clear hv
    go_wp2_with (first|(go_at_call 98;(with_reducible refine cmo NC.out ?_);rintro e w3 ⟨z,rfl,hz3,rfl⟩;have EZ:=mh (hz3 rfl);clear hz3)|(at_builtin;(refine OwnR.append el_int rfl (.tmp 31) (.tmp 33) rfl w.heap.size _ ((tl (ws.take k)).map nv) z #[I O z] rfl HO.out rfl (by simp[Act.eval]) HB.out.size (by have:=LEN.out;omega) (by decide) ?_);intro v5 w5 hO5 hap5;have HO5:=mh hO5;have HB5:=mh (HB.out.trans hap5.below);clear hO5 hap5)|fail)
    go_roundw
    case rel=>exact⟨k+1,by omega,by go_num,by rw[ST.out,List.map_append];show OwnR SI _ _ _ _ (_ ++ [nv y.data.toList]);rw[← EZ.out];exact HO5.out,by rw[ST.out,List.all_append,HA.out];simp[HV.out],HB5.out⟩
    case measure=>simp[intOf];omega
  ·obtain rfl:k=m:=by omega
   rw[List.take_of_length_le (by rw[HM.out];exact Nat.le_refl _)]at HO HA;have HF:=mh (show numsB (tl ws) k=true from by unfold numsB;rw[HA.out,dqt HL.out];rfl);clear hO hall hb
   go_wp2
   go_ret2
   exact⟨_,by rw[HF.out];rfl,(fun _=>HO.out),HB.out⟩
end Go.Proofs.YtljibgchickcpaaGreatDoor
