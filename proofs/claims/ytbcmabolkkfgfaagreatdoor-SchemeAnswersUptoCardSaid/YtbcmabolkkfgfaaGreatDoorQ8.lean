/- Packed. -/
import Derived.Test.YtbcmabolkkfgfaaGreatDoorQ7
set_option maxRecDepth 100000
set_option maxHeartbeats 8000000
open Go.Value renaming int → I
open Go.IntKind renaming i64 → O
namespace Go.Proofs.YtbcmabolkkfgfaaGreatDoor
open Go.RowKit Te
theorem ops_any (o:Int)(h1:1≤o)(h2:o≤11)(w:World):Calls Tryz.prog 99 #[I O o] w (StrGive (opW o) w):=by
 have:o=1∨o=2∨o=3∨o=4∨o=5∨o=6∨o=7∨o=8∨o=9∨o=10∨o=11:=by omega
 clear h1 h2
 rcases this with rfl|rfl|rfl|rfl|rfl|rfl|rfl|rfl|rfl|rfl|rfl
 all_goals
  go_enter Tryz.func99,Tryz.ntmps99
  go_wp2
  go_ret
  exact⟨rfl,by go_grown⟩
theorem str_eq {a b:ByteArray}(h:a.data.toList=b.data.toList):a=b:=by
 cases a with|mk a=>cases b with|mk b=>simp at h;rw[h]
theorem app_list (a b:ByteArray):(a++b).data.toList=a.data.toList++b.data.toList:=by rw[ByteArray.data_append];simp
theorem StrG.mk {w w' : World}{s:ByteArray}{l:List UInt8}(h:s.data.toList=l)(hb:Below w.heap.size w w'):StrGive l w (.returned (.string s)) w' :=
 ⟨by rw[show s=⟨l.toArray⟩ from str_eq (by rw[h])],hb⟩
theorem sz_len (s:ByteArray):s.data.toList.length=s.size:=by rw[Array.length_toList];rfl
def TextRAt (Q:Nat→Prop) (d:Nat):Prop:=∀(r:RT) (t:Tm) (w:World),TV Q w d r t→form t=true→(tS t).length≤1000000 →
    Calls Tryz.prog 65 #[.agg #[I O r.op,I O r.num,I O r.more,.slice r.p r.n r.c]] w (StrGive (tS t) w)
theorem refdec_any (n:Int)(w:World)(h0 : -9223372036854775808≤n)(h1:n≤9223372036854775807):Calls Tryz.prog 24 #[I O n] w (DecGive n w):=refdecimal_any (n.natAbs+1) n w (by omega) h0 h1
theorem Bx.nxt {w W W' : World}{r:RT}(hW:Bx w W r)(hb:Below W.heap.size W W'):Bx w W' r :=
 ⟨bstep mle hW.below hb,⟨(hb.cell (p:=⟨w.heap.size,0,none⟩) hW.lt).trans hW.cells.c0,(hb.cell (p:=⟨w.heap.size,0+1,none⟩) hW.lt).trans hW.cells.c1,(hb.cell (p:=⟨w.heap.size,0+2,none⟩) hW.lt).trans hW.cells.c2,(hb.cell (p:=⟨w.heap.size,0+3,none⟩) hW.lt).trans hW.cells.c3⟩,nll hW.lt hb.size⟩
theorem textr_leaf {o n m:Int}{p:Option Addr}{c:Nat}{K:List Tm}{w:World}(hf:form (.mk o n m K)=true)(ho:¬o=9∧¬o=10∧¬o=11) :
  Calls Tryz.prog 65 #[.agg #[I O o,I O n,I O m,.slice p K.length c]] w (StrGive (tS (.mk o n m K)) w):=by
 have B0:=Bx.box w ⟨o,n,m,p,K.length,c⟩ 28;simp only at B0;obtain⟨o1,o2⟩:=form_op hf;rw[form_cons,Bool.and_eq_true]at hf;have hs:=hf.1;clear hf;have OP:=mh (fun (W:World)=>ops_any o o1 o2 W)
 by_cases h1:o=1
 ·subst h1
  have HX:=mh B0;have HT:=mh (show(⟨#[116,114,117,101]⟩:ByteArray).data.toList=tS (.mk 1 n m K) by rw[tS,if_pos rfl];rfl);have OP1:=mh (show ∀W,Calls Tryz.prog 99 #[I O 1] W (fun e w' => e = .returned (.string ⟨#[116,114,117,101]⟩)∧Below W.heap.size W w') from fun W=>OP.out W);clear B0 hs o1 o2 ho OP
  go_enter Tryz.func65,Tryz.ntmps65
  go_wp2_with (first|(go_at_call 99;(with_reducible refine cmo (OP1.out _) ?_);rintro e w1 ⟨rfl,hb1⟩;have HX1:=mh (HX.out.nxt hb1);obtain⟨z0,z1,z2,z3⟩:=HX1.out.cells;rw[Nat.zero_add]at z1 z2 z3;clear hb1))
  go_ret
  exact StrG.mk HT.out HX1.out.below
 by_cases h4:o=4
 ·subst h4
  simp[selfB]at hs
  obtain⟨k,hk,rfl⟩:=single_nat hs.1.1;have HX:=mh B0;obtain⟨M,eM⟩:∃M:ByteArray,(⟨(Cr.mword k).toArray⟩:ByteArray)=M:=⟨_,rfl⟩;have hMz:M.size≤5:=by rw[← eM,← sz_len];exact(Cr.mword_word k hk).1
  have MK:=mh (fun (W:World)=>show Calls Tryz.prog 100 #[I O (k:Int)] W (fun e w' => e = .returned (.string M)∧Below W.heap.size W w') from eM▸refmarks_any k hk W);have HT:=mh (show((⟨#[109,97,114,107]⟩:ByteArray)++⟨#[32]⟩++M).data.toList=tS (.mk 4 (k:Int) m K) by rw[tS,if_neg (by decide),if_pos rfl,app_list,app_list,← eM];rfl);have OP1:=mh (show ∀W,Calls Tryz.prog 99 #[I O 4] W (fun e w' => e = .returned (.string ⟨#[109,97,114,107]⟩)∧Below W.heap.size W w') from fun W=>OP.out W);have s1:¬9223372036854775807<5+M.size:=by omega
  have s1a:5+M.size≤9223372036854775807:=by omega
  clear B0 hs o1 o2 ho OP eM hMz hk
  go_enter Tryz.func65,Tryz.ntmps65
  go_wp2_with (first|(go_at_call 99;(with_reducible refine cmo (OP1.out _) ?_);rintro e w1 ⟨rfl,hb1⟩;have HX1:=mh (HX.out.nxt hb1);obtain⟨z0,z1,z2,z3⟩:=HX1.out.cells;rw[Nat.zero_add]at z1 z2 z3;clear hb1)|(go_at_call 100;(with_reducible refine cmo (MK.out _) ?_);rintro e w2 ⟨rfl,hb2⟩;have HX2:=mh (HX1.out.nxt hb2)))
  go_ret
  exact StrG.mk HT.out HX2.out.below
 by_cases h7:o=7
 ·subst h7
  simp[selfB]at hs
  obtain⟨k,hk,rfl⟩:=single_nat hs.1.2;have hn1:=hs.1.1;obtain⟨M,eM⟩:∃M:ByteArray,(⟨(Cr.mword k).toArray⟩:ByteArray)=M:=⟨_,rfl⟩;have hMz:M.size≤5:=by rw[← eM,← sz_len];exact(Cr.mword_word k hk).1
  obtain⟨D,eD⟩:∃D:ByteArray,(⟨(Lib.itoa n).toArray⟩:ByteArray)=D:=⟨_,rfl⟩;have hDz:D.size≤2:=by rw[← eD,← sz_len];exact Te.itoa_le (n:=n) (by omega) (by omega) (by omega)
  have MK:=mh (fun (W:World)=>show Calls Tryz.prog 100 #[I O (k:Int)] W (fun e w' => e = .returned (.string M)∧Below W.heap.size W w') from eM▸refmarks_any k hk W);have DE:=mh (fun (W:World)=>show Calls Tryz.prog 24 #[I O n] W (fun e w' => e = .returned (.string D)∧Below W.heap.size W w') from eD▸refdec_any n W (by omega) (by omega));have hT:((⟨#[98,101,102,111,114,101]⟩:ByteArray)++⟨#[32]⟩++D++⟨#[32]⟩++M).data.toList=tS (.mk 7 n (k:Int) K):=by rw[tS,if_neg (by decide),if_neg (by decide),if_pos rfl,app_list,app_list,app_list,app_list,← eM,← eD];simp[opW]
  obtain⟨XS,eX⟩:∃XS:ByteArray,(⟨#[98,101,102,111,114,101]⟩:ByteArray)++⟨#[32]⟩++D++⟨#[32]⟩++M=XS:=⟨_,rfl⟩;rw[eX]at hT;have HT:=mh hT;have OP1:=mh (show ∀W,Calls Tryz.prog 99 #[I O 7] W (fun e w' => e = .returned (.string ⟨#[98,101,102,111,114,101]⟩)∧Below W.heap.size W w') from fun W=>OP.out W);have KC:=mh (fun (W:World) (hW:Bx w W ⟨7,n,(k:Int),p,K.length,c⟩)=>show W.cell? ⟨w.heap.size,1,none⟩=some (I O n)∧W.cell? ⟨w.heap.size,2,none⟩=some (I O (k:Int)) from⟨hW.cells.c1,hW.cells.c2⟩);have HX:=mh B0;have s2:¬9223372036854775807<7+D.size:=by omega
  have s2a:7+D.size≤9223372036854775807:=by omega
  have s3:¬9223372036854775807<7+D.size+1:=by omega
  have s3a:7+D.size+1≤9223372036854775807:=by omega
  have s3b:¬9223372036854775807≤7+D.size:=by omega
  have s3c:7+D.size<9223372036854775807:=by omega
  have s4:¬9223372036854775807<7+D.size+1+M.size:=by omega
  have s4a:7+D.size+1+M.size≤9223372036854775807:=by omega
  clear B0 hs o1 o2 ho OP eM eD hMz hDz hk hn1 hT
  go_enter Tryz.func65,Tryz.ntmps65
  go_wp2_with (go_at_call 99;(with_reducible refine cmo (OP1.out _) ?_);rintro e w1 ⟨rfl,hb1⟩;have K1:=(HX.out.nxt hb1);obtain⟨z0,z1,z2,z3⟩:=K1.cells;rw[Nat.zero_add]at z1 z2 z3;clear hb1)
  have K1d:=K1.nxt ((brf _ _).drew);clear z0 z1 z2 z3
  go_region_held3 (fun W=>W.cell? ⟨w.heap.size,1,none⟩=some (I O n)∧W.cell? ⟨w.heap.size,2,none⟩=some (I O (k:Int)))
   (first|exact KC.out _ K1|exact KC.out _ K1d|exact KC.out _ K5|exact KC.out _ K6|fail)
   (first
    | (go_at_call 24;(with_reducible refine cmo (DE.out _) ?_);rintro e w5 ⟨rfl,hb5⟩;have K5:Bx w w5 ⟨7,n,(k:Int),p,K.length,c⟩:=(by first|exact K1d.nxt hb5|exact K1.nxt hb5))
    | (go_at_call 100;(with_reducible refine cmo (MK.out _) ?_);rintro e w6 ⟨rfl,hb6⟩;have K6:Bx w w6 ⟨7,n,(k:Int),p,K.length,c⟩:=K5.nxt hb6)
    | fail)
  go_wp2
  go_ret
  exact StrG.mk HT.out K6.below
 have hn1:0≤n∧n≤40:=by
  unfold selfB at hs
  repeat' split at hs
  all_goals first|omega|(simp at hs)|(cases hs)
  all_goals omega
 obtain⟨D,eD⟩:∃D:ByteArray,(⟨(Lib.itoa n).toArray⟩:ByteArray)=D:=⟨_,rfl⟩;have hDz:D.size≤2:=by rw[← eD,← sz_len];exact Te.itoa_le (n:=n) (by omega) (by omega) (by omega)
 have DE:=mh (fun (W:World)=>show Calls Tryz.prog 24 #[I O n] W (fun e w' => e = .returned (.string D)∧Below W.heap.size W w') from eD▸refdec_any n W (by omega) (by omega));obtain⟨S,eS⟩:∃S:ByteArray,(⟨(opW o).toArray⟩:ByteArray)=S:=⟨_,rfl⟩;have hSz:S.size≤6:=by rw[← eS,← sz_len];exact opW_len o o1 o2
 have HT:=mh (show(S++⟨#[32]⟩++D).data.toList=tS (.mk o n m K) by
  rw[tS,if_neg h1,if_neg h4,if_neg h7,if_neg ho.2.2,if_neg (by omega),app_list,app_list,← eS,← eD];simp)
 have OP1:=mh (show ∀W,Calls Tryz.prog 99 #[I O o] W (fun e w' => e = .returned (.string S)∧Below W.heap.size W w') from fun W=>eS▸OP.out W);have HX:=mh B0;have hor:o=2∨o=3∨o=5∨o=6∨o=8:=by omega
 have s5:¬9223372036854775807<S.size+1:=by omega
 have s5a:S.size+1≤9223372036854775807:=by omega
 have s5b:¬9223372036854775807≤S.size:=by omega
 have s5c:S.size<9223372036854775807:=by omega
 have s6:¬9223372036854775807<S.size+1+D.size:=by omega
 have s6a:S.size+1+D.size≤9223372036854775807:=by omega
 clear B0 o1 o2 ho hn1 h1 h4 h7 eD eS hSz hDz OP
 rcases hor with rfl|rfl|rfl|rfl|rfl
 all_goals
  go_enter Tryz.func65,Tryz.ntmps65
  go_wp2_with (first|(go_at_call 99;(with_reducible refine cmo (OP1.out _) ?_);rintro e w1 ⟨rfl,hb1⟩;have HX1:=mh (HX.out.nxt hb1);obtain⟨z0,z1,z2,z3⟩:=HX1.out.cells;rw[Nat.zero_add]at z1 z2 z3;clear hb1)|(go_at_call 24;(with_reducible refine cmo (DE.out _) ?_);rintro e w2 ⟨rfl,hb2⟩;have HX2:=mh (HX1.out.nxt hb2)))
  go_ret
  exact StrG.mk HT.out HX2.out.below
theorem textr_any {Q:Nat→Prop}(d:Nat):TextRAt Q d:=by
 induction d using Nat.strongRecOn with
 | _ d ih =>
 intro r t w h hf hl;obtain⟨o,n,m,p,l,c⟩:=r;obtain⟨t0,tn,tm,K⟩:=t;obtain rfl:o=t0:=h.is.op;obtain rfl:n=tn:=h.is.num;obtain rfl:m=tm:=h.is.more;have hat:TmsAt Q w d p K:=h.at_;have hlen:l=K.length:=h.is.n;simp only;subst hlen
 by_cases ho:¬o=9∧¬o=10∧¬o=11
 ·exact textr_leaf hf ho
 have hn:=hat.len;obtain⟨o1,o2⟩:=form_op hf;have B0:=Bx.box w ⟨o,n,m,p,K.length,c⟩ 28;simp only at B0;rw[form_cons,Bool.and_eq_true]at hf;obtain⟨hs,hfL⟩:=hf;have HX:=mh B0;have IH:=mh ih;have HA:=mh hat;have HFL:=mh hfL;have OP:=mh (fun (W:World)=>ops_any o o1 o2 W)
 by_cases h11:o=11
 ·subst h11
  simp[selfB]at hs
  obtain⟨⟨rfl,rfl⟩,hk⟩:=hs;obtain⟨k,rfl⟩:∃k,K = [k]:=by
   match K,hk with
   | [k],_=>exact⟨k,rfl⟩
  have hT:tS (.mk 11 0 0 [k])=opW 11++(32::tS k):=by
   rw[tS,if_neg (by decide),if_neg (by decide),if_neg (by decide),if_pos rfl,tSL,tSL,List.append_nil]
  obtain⟨e,b,off,r,rfl,rfl,hbl,hcs,hv⟩:=hat.kid (k:=0) (by simp);rw[Nat.zero_mul,Nat.add_zero]at hcs;have hkl:(tS k).length+4≤1000000:=by
   have:=hl;rw[hT,lap,List.length_cons]at this;have h2:(opW 11).length=3:=rfl;omega
  obtain⟨T,eT⟩:∃T:ByteArray,(⟨(tS k).toArray⟩:ByteArray)=T:=⟨_,rfl⟩;have hTz:T.size=(tS k).length:=by rw[← eT,← sz_len]
  have OP1:=mh (show ∀W,Calls Tryz.prog 99 #[I O 11] W (fun e w' => e = .returned (.string ⟨#[110,111,116]⟩)∧Below W.heap.size W w') from fun W=>OP.out W);have HC:=mh hcs;have TX:=mh (fun (W:World) (hb:Below w.heap.size w W)=>show Calls Tryz.prog 65 #[.agg #[I O r.op,I O r.num,I O r.more,.slice r.p r.n r.c]] W (fun e w' => e = .returned (.string T)∧Below W.heap.size W w') from eT▸IH.out e (by omega) r k W (hv.below hb) (form_mem hfL 0 (by simp)) (by omega))
  have HR:=mh (show((⟨#[110,111,116]⟩:ByteArray)++⟨#[32]⟩++T).data.toList=tS (.mk 11 0 0 [k]) by
   rw[hT,app_list,app_list,← eT];simp[opW])
  have s1:¬9223372036854775807<4+T.size:=by omega
  have s1a:4+T.size≤9223372036854775807:=by omega
  clear h hl ih hat hfL B0 hv hk OP o1 o2 hT eT hTz hkl hcs ho
  go_enter Tryz.func65,Tryz.ntmps65
  go_wp2_with (first
   | (go_at_call 99;(with_reducible refine cmo (OP1.out _) ?_);rintro e w1 ⟨rfl,hb1⟩;have HX1:=mh (HX.out.nxt hb1);obtain⟨z0,z1,z2,z3⟩:=HX1.out.cells;rw[Nat.zero_add]at z1 z2 z3;obtain⟨c0,c1,c2,c3⟩:=HC.out;have d0:=(HX1.out.below.cell (p:=⟨b,off,none⟩) hbl).trans c0;have d1:=(HX1.out.below.cell (p:=⟨b,off+1,none⟩) hbl).trans c1;have d2:=(HX1.out.below.cell (p:=⟨b,off+2,none⟩) hbl).trans c2;have d3:=(HX1.out.below.cell (p:=⟨b,off+3,none⟩) hbl).trans c3;have TX1:=mh (TX.out _ HX1.out.below);clear hb1 c0 c1 c2 c3)
   | (go_at_call 65;(with_reducible refine cmo TX1.out ?_);rintro e w2 ⟨rfl,hb2⟩;have HX2:=mh (HX1.out.nxt hb2))
   | fail)
  go_ret
  exact StrG.mk HR.out HX2.out.below
 ·have h9:o=9∨o=10:=by omega
  clear ho h11
  rcases h9 with h9|h10
  ·obtain rfl:=h9
   have hT:tS (.mk 9 n m K)=opW 9++([32,40]++(tSL K ++ [32,41])):=by
    rw[tS,if_neg (by decide),if_neg (by decide),if_neg (by decide),if_neg (by decide),if_pos (by decide)]
   have hkl:(tSL K).length+5≤1000000:=by
    have:=hl;rw[hT]at this;simp only[lap,List.length_cons,List.length_nil]at this;have h2:(opW 9).length≤3∧2≤(opW 9).length:=by decide
    omega
   have HT:=mh hT;have OP1:=mh (show ∀W,Calls Tryz.prog 99 #[I O 9] W (fun e w' => e = .returned (.string ⟨#[97,110,100]⟩)∧Below W.heap.size W w') from fun W=>OP.out W);clear h hl ih hat hfL B0 hs OP o1 o2 hT
   go_enter Tryz.func65,Tryz.ntmps65
   go_wp2_with (go_at_call 99;(with_reducible refine cmo (OP1.out _) ?_);rintro e w1 ⟨rfl,hb1⟩;have HX1:=mh (HX.out.nxt hb1);obtain⟨z0,z1,z2,z3⟩:=HX1.out.cells;rw[Nat.zero_add]at z1 z2 z3;clear hb1)
   have HB1:=mh HX1.out.below;clear z0 z1 z2 z3
   go_loopw [3,53] (fun v i wr=>∃(j:Nat) (X:ByteArray),j≤K.length∧i=I O j∧v = .string X∧X.data.toList=opW 9++([32,40]++tSL (K.take j))∧Below w.heap.size w wr) (fun _ i _=>K.length - (intOf i).toNat)
   case atStart=>exact⟨0,_,Nat.zero_le _,rfl,rfl,by rw[List.take_zero,tSL];decide +kernel,HB1.out⟩
   case round =>
    obtain⟨wo,rfl⟩:∃wo:World,wo=wr:=⟨_,rfl⟩;obtain⟨j,X,hj,rfl,rfl,hX,hb⟩:=hrel;have HXX:=mh hX;have HB:=mh hb;have hj0:(0:Int)≤(j:Int):=inn _;have htk:=tSL_take K j;have hXz:X.size=(opW 9).length+(2+(tSL (K.take j)).length):=by
     rw[← sz_len,hX,lap,lap];rfl
    have hop:(opW 9).length≤3:=by decide
    by_cases hlt:j<K.length
    ·have hj1:(j:Int)<(K.length:Int):=by omega
     obtain⟨e,b,off,k,rfl,rfl,hbl,hcs,hv⟩:=(HA.out.below hb).kid hlt;obtain⟨c0,c1,c2,c3⟩:=hcs;have hlj:=tSL_take K (j+1);have hsu:=tSL_succ K j hlt;have HS:=mh hsu;rw[hsu,lap,List.length_cons]at hlj;obtain⟨T,eT⟩:∃T:ByteArray,(⟨(tS K[j]).toArray⟩:ByteArray)=T:=⟨_,rfl⟩;have hTz:T.size=(tS K[j]).length:=by rw[← eT,← sz_len]
     have HK:=mh (show Calls Tryz.prog 65 #[.agg #[I O k.op,I O k.num,I O k.more,.slice k.p k.n k.c]] (wo.alloc (.cells #[I O k.op,I O k.num,I O k.more,.slice k.p k.n k.c] 28)) (fun e w' => e = .returned (.string T)∧Below (wo.alloc (.cells #[I O k.op,I O k.num,I O k.more,.slice k.p k.n k.c] 28)).heap.size (wo.alloc (.cells #[I O k.op,I O k.num,I O k.more,.slice k.p k.n k.c] 28)) w') from eT▸IH.out e (by omega) k K[j] _ (hv.below ((brf _ _).alloc mle (.cells #[I O k.op,I O k.num,I O k.more,.slice k.p k.n k.c] 28))) (form_mem HFL.out j hlt) (by omega));have HB1:=mh (balloc mle hb (.cells #[I O k.op,I O k.num,I O k.more,.slice k.p k.n k.c] 28))
     have HR:=mh (show(X++((⟨#[32]⟩:ByteArray)++T)).data.toList=opW 9++([32,40]++tSL (K.take (j+1))) by
      rw[app_list,app_list,hX,hsu,← eT];simp)
     have s1:¬9223372036854775807<1+T.size:=by omega
     have s1a:1+T.size≤9223372036854775807:=by omega
     have s2:¬9223372036854775807<X.size+(1+T.size):=by omega
     have s2a:X.size+(1+T.size)≤9223372036854775807:=by omega
     clear hv hb hX eT hTz hlj hsu htk hXz hop
     go_wp2_with (first
      | (go_at_call 65;(with_reducible refine cmo HK.out ?_);rintro e w1 ⟨rfl,hb1⟩)
      | fail)
     go_roundw
     case rel=>exact⟨j+1,_,by omega,by go_num,rfl,HR.out,bstep mle HB1.out hb1⟩
     case measure=>simp[intOf];omega
    ·obtain rfl:j=K.length:=by omega
     rw[List.take_length]at HXX
     have HR:=mh (show(X++(⟨#[32,41]⟩:ByteArray)).data.toList=tS (.mk 9 n m K) by
      rw[app_list,HXX.out,HT.out];simp)
     have s2:¬9223372036854775807<X.size+2:=by omega
     have s2a:X.size+2≤9223372036854775807:=by omega
     clear hb hX htk hXz hop
     go_wp2
     go_ret
     exact StrG.mk HR.out HB.out
  ·obtain rfl:=h10
   have hT:tS (.mk 10 n m K)=opW 10++([32,40]++(tSL K ++ [32,41])):=by
    rw[tS,if_neg (by decide),if_neg (by decide),if_neg (by decide),if_neg (by decide),if_pos (by decide)]
   have hkl:(tSL K).length+5≤1000000:=by
    have:=hl;rw[hT]at this;simp only[lap,List.length_cons,List.length_nil]at this;have h2:(opW 10).length≤3∧2≤(opW 10).length:=by decide
    omega
   have HT:=mh hT;have OP1:=mh (show ∀W,Calls Tryz.prog 99 #[I O 10] W (fun e w' => e = .returned (.string ⟨#[111,114]⟩)∧Below W.heap.size W w') from fun W=>OP.out W);clear h hl ih hat hfL B0 hs OP o1 o2 hT
   go_enter Tryz.func65,Tryz.ntmps65
   go_wp2_with (go_at_call 99;(with_reducible refine cmo (OP1.out _) ?_);rintro e w1 ⟨rfl,hb1⟩;have HX1:=mh (HX.out.nxt hb1);obtain⟨z0,z1,z2,z3⟩:=HX1.out.cells;rw[Nat.zero_add]at z1 z2 z3;clear hb1)
   have HB1:=mh HX1.out.below;clear z0 z1 z2 z3
   go_loopw [3,53] (fun v i wr=>∃(j:Nat) (X:ByteArray),j≤K.length∧i=I O j∧v = .string X∧X.data.toList=opW 10++([32,40]++tSL (K.take j))∧Below w.heap.size w wr) (fun _ i _=>K.length - (intOf i).toNat)
   case atStart=>exact⟨0,_,Nat.zero_le _,rfl,rfl,by rw[List.take_zero,tSL];decide +kernel,HB1.out⟩
   case round =>
    obtain⟨wo,rfl⟩:∃wo:World,wo=wr:=⟨_,rfl⟩;obtain⟨j,X,hj,rfl,rfl,hX,hb⟩:=hrel;have HXX:=mh hX;have HB:=mh hb;have hj0:(0:Int)≤(j:Int):=inn _;have htk:=tSL_take K j;have hXz:X.size=(opW 10).length+(2+(tSL (K.take j)).length):=by
     rw[← sz_len,hX,lap,lap];rfl
    have hop:(opW 10).length≤3:=by decide
    by_cases hlt:j<K.length
    ·have hj1:(j:Int)<(K.length:Int):=by omega
     obtain⟨e,b,off,k,rfl,rfl,hbl,hcs,hv⟩:=(HA.out.below hb).kid hlt;obtain⟨c0,c1,c2,c3⟩:=hcs;have hlj:=tSL_take K (j+1);have hsu:=tSL_succ K j hlt;have HS:=mh hsu;rw[hsu,lap,List.length_cons]at hlj;obtain⟨T,eT⟩:∃T:ByteArray,(⟨(tS K[j]).toArray⟩:ByteArray)=T:=⟨_,rfl⟩;have hTz:T.size=(tS K[j]).length:=by rw[← eT,← sz_len]
     have HK:=mh (show Calls Tryz.prog 65 #[.agg #[I O k.op,I O k.num,I O k.more,.slice k.p k.n k.c]] (wo.alloc (.cells #[I O k.op,I O k.num,I O k.more,.slice k.p k.n k.c] 28)) (fun e w' => e = .returned (.string T)∧Below (wo.alloc (.cells #[I O k.op,I O k.num,I O k.more,.slice k.p k.n k.c] 28)).heap.size (wo.alloc (.cells #[I O k.op,I O k.num,I O k.more,.slice k.p k.n k.c] 28)) w') from eT▸IH.out e (by omega) k K[j] _ (hv.below ((brf _ _).alloc mle (.cells #[I O k.op,I O k.num,I O k.more,.slice k.p k.n k.c] 28))) (form_mem HFL.out j hlt) (by omega));have HB1:=mh (balloc mle hb (.cells #[I O k.op,I O k.num,I O k.more,.slice k.p k.n k.c] 28))
     have HR:=mh (show(X++((⟨#[32]⟩:ByteArray)++T)).data.toList=opW 10++([32,40]++tSL (K.take (j+1))) by
      rw[app_list,app_list,hX,hsu,← eT];simp)
     have s1:¬9223372036854775807<1+T.size:=by omega
     have s1a:1+T.size≤9223372036854775807:=by omega
     have s2:¬9223372036854775807<X.size+(1+T.size):=by omega
     have s2a:X.size+(1+T.size)≤9223372036854775807:=by omega
     clear hv hb hX eT hTz hlj hsu htk hXz hop
     go_wp2_with (first
      | (go_at_call 65;(with_reducible refine cmo HK.out ?_);rintro e w1 ⟨rfl,hb1⟩)
      | fail)
     go_roundw
     case rel=>exact⟨j+1,_,by omega,by go_num,rfl,HR.out,bstep mle HB1.out hb1⟩
     case measure=>simp[intOf];omega
    ·obtain rfl:j=K.length:=by omega
     rw[List.take_length]at HXX
     have HR:=mh (show(X++(⟨#[32,41]⟩:ByteArray)).data.toList=tS (.mk 10 n m K) by
      rw[app_list,HXX.out,HT.out];simp)
     have s2:¬9223372036854775807<X.size+2:=by omega
     have s2a:X.size+2≤9223372036854775807:=by omega
     clear hb hX htk hXz hop
     go_wp2
     go_ret
     exact StrG.mk HR.out HB.out
def WordsG (t:Tm) (w:World) (e:Ending) (w' : World):Prop:=∃p c,e = .returned (.tuple #[.slice p (textW t).length c,I O 0])∧OwnR SB w' 9 w.heap.size (.slice p (textW t).length c) ((textW t).map bs)∧Below w.heap.size w w'
theorem WordsG.mk {w w1 w2:World}{t:Tm}{p:Option Addr}{n c:Nat}(hn:n=(textW t).length)(h:OwnR SB w2 9 w1.heap.size (.slice p ((textW t).map bs).length c) ((textW t).map bs))(hb:Below w.heap.size w w1)(hb2:Below w1.heap.size w1 w2) :
  WordsG t w (.returned (.tuple #[.slice p n c,I O 0])) w2:=by
 subst hn;rw[List.length_map]at h;exact⟨p,c,rfl,h.mono hb.size,bstep mle hb hb2⟩
theorem words16_any {Q:Nat→Prop}(d:Nat)(r:RT)(t:Tm)(w:World)(h:TV Q w d r t)(h0:chkT t=0)(hE:Env w) :
  Calls Tryz.prog 56 #[.agg #[I O r.op,I O r.num,I O r.more,.slice r.p r.n r.c]] w (WordsG t w):=by
 obtain⟨h1,h2,h3⟩:=chkT_ok h0;have hl:=textW_len h3;have B0:=Bx.box w r 28;have CK:=mh (show Calls Tryz.prog 50 #[.agg #[I O r.op,I O r.num,I O r.more,.slice r.p r.n r.c]] (w.alloc (.cells #[I O r.op,I O r.num,I O r.more,.slice r.p r.n r.c] 28)) (IntG 0 (w.alloc (.cells #[I O r.op,I O r.num,I O r.more,.slice r.p r.n r.c] 28))) from h0▸check16_any d r t _ (h.below B0.below));have TX:=mh (fun (W:World) (hW:Bx w W r)=>text_any (Q:=Q) d r t W (h.below hW.below) h3 (by omega) (hE.below hW.below));have HX:=mh B0;clear h hE B0 h0 h1 h2 h3 hl
 go_enter Tryz.func56,Tryz.ntmps56
 go_wp2_with (first
  | (go_at_call 50;(with_reducible refine cmo CK.out ?_);rintro e w1 ⟨rfl,hb1⟩;have HX1:=mh (HX.out.nxt hb1);obtain⟨z0,z1,z2,z3⟩:=HX1.out.cells;rw[Nat.zero_add]at z1 z2 z3;have TX1:=mh (TX.out _ HX1.out);clear hb1)
  | (go_at_call 94;(with_reducible refine cmo TX1.out ?_);rintro e w2 ⟨q,cc,rfl,hO,hb2⟩;have HO:=mh hO;have HB2:=mh hb2;clear hO hb2)
  | fail)
 go_ret2
 exact WordsG.mk (by simp) HO.out HX1.out.below HB2.out
def PrintTG (t:Tm) (w:World) (e:Ending) (w' : World):Prop:=e = .returned (.tuple #[.string ⟨(tS t).toArray⟩,I O 0])∧Below w.heap.size w w'
theorem refprint16_any {Q:Nat→Prop}(d:Nat)(r:RT)(t:Tm)(w:World)(h:TV Q w d r t)(h0:chkT t=0) :
  Calls Tryz.prog 35 #[.agg #[I O r.op,I O r.num,I O r.more,.slice r.p r.n r.c]] w (PrintTG t w):=by
 obtain⟨h1,h2,h3⟩:=chkT_ok h0;have hl:=tS_len t h3;have B0:=Bx.box w r 28;have CK:=mh (show Calls Tryz.prog 53 #[.agg #[I O r.op,I O r.num,I O r.more,.slice r.p r.n r.c]] (w.alloc (.cells #[I O r.op,I O r.num,I O r.more,.slice r.p r.n r.c] 28)) (IntG 0 (w.alloc (.cells #[I O r.op,I O r.num,I O r.more,.slice r.p r.n r.c] 28))) from h0▸refcheck16_any d r t _ (h.below B0.below) (by omega));have TX:=mh (fun (W:World) (hW:Bx w W r)=>textr_any (Q:=Q) d r t W (h.below hW.below) h3 (by omega));have HX:=mh B0;clear h B0 h0 h1 h2 h3 hl
 go_enter Tryz.func35,Tryz.ntmps35
 go_wp2_with (first
  | (go_at_call 53;(with_reducible refine cmo CK.out ?_);rintro e w1 ⟨rfl,hb1⟩;have HX1:=mh (HX.out.nxt hb1);obtain⟨z0,z1,z2,z3⟩:=HX1.out.cells;rw[Nat.zero_add]at z1 z2 z3;have TX1:=mh (TX.out _ HX1.out);clear hb1)
  | (go_at_call 65;(with_reducible refine cmo TX1.out ?_);rintro e w2 ⟨rfl,hb2⟩)
  | fail)
 go_ret2
 exact⟨rfl,bstep mle HX1.out.below hb2⟩
open Cr
theorem ix112:Lib.indexByte [112,103,99,102,108] 112=0:=by decide +kernel
theorem ix103:Lib.indexByte [112,103,99,102,108] 103=1:=by decide +kernel
theorem ix99:Lib.indexByte [112,103,99,102,108] 99=2:=by decide +kernel
theorem ix102:Lib.indexByte [112,103,99,102,108] 102=3:=by decide +kernel
theorem ix108:Lib.indexByte [112,103,99,102,108] 108=4:=by decide +kernel
theorem ix_none {c:UInt8}(h0:¬c=112)(h1:¬c=103)(h2:¬c=99)(h3:¬c=102)(h4:¬c=108):Lib.indexByte [112,103,99,102,108] c = -1:=by
 have e:∀a:UInt8,¬c=a→(a==c)=false:=fun a h=>by simpa using fun e=>h e.symm
 simp[Lib.indexByte,e 112 h0,e 103 h1,e 99 h2,e 102 h3,e 108 h4]
def MarkGive (c:UInt8) (w:World) (e:Ending) (w' : World):Prop:=e = .returned (I O (markOf c:Int))∧w=w'
theorem mark_any (c:UInt8)(w:World):Calls Tryz.prog 163 #[.string ⟨#[c]⟩] w (MarkGive c w):=by
 by_cases h0:c=112
 ·subst h0
  have C:=mh (show ∀W,Calls Tryz.prog 171 #[.string ⟨#[112,103,99,102,108]⟩,.string ⟨#[112]⟩] W (fun e w' => e = .returned (.bool true)∧w' = W) from fun W=>by
   have:=Tryz.strings_Contains_one ⟨#[112,103,99,102,108]⟩ 112 W;rw[show Lib.indexByte (⟨#[112,103,99,102,108]⟩:ByteArray).data.toList 112=0 from ix112]at this
   exact this)
  have Ix:=mh (show ∀W,Calls Tryz.prog 87 #[.string ⟨#[112,103,99,102,108]⟩,.string ⟨#[112]⟩] W (fun e w' => e = .returned (I O 0)∧w' = W) from fun W=>by
   have:=Tryz.strings_Index_one ⟨#[112,103,99,102,108]⟩ 112 W;rw[show Lib.indexByte (⟨#[112,103,99,102,108]⟩:ByteArray).data.toList 112=0 from ix112]at this
   exact this)
  go_enter Tryz.func163,Tryz.ntmps163
  go_wp2_with (first
   | (go_at_call 171;(with_reducible refine cmo (C.out _) ?_);rintro e w1 ⟨rfl,hw⟩;obtain rfl:=hw.symm)
   | (go_at_call 87;(with_reducible refine cmo (Ix.out _) ?_);rintro e w1 ⟨rfl,hw⟩;obtain rfl:=hw.symm))
  go_ret
  exact⟨rfl,rfl⟩
 by_cases h1:c=103
 ·subst h1
  have C:=mh (show ∀W,Calls Tryz.prog 171 #[.string ⟨#[112,103,99,102,108]⟩,.string ⟨#[103]⟩] W (fun e w' => e = .returned (.bool true)∧w' = W) from fun W=>by
   have:=Tryz.strings_Contains_one ⟨#[112,103,99,102,108]⟩ 103 W;rw[show Lib.indexByte (⟨#[112,103,99,102,108]⟩:ByteArray).data.toList 103=1 from ix103]at this
   exact this)
  have Ix:=mh (show ∀W,Calls Tryz.prog 87 #[.string ⟨#[112,103,99,102,108]⟩,.string ⟨#[103]⟩] W (fun e w' => e = .returned (I O 1)∧w' = W) from fun W=>by
   have:=Tryz.strings_Index_one ⟨#[112,103,99,102,108]⟩ 103 W;rw[show Lib.indexByte (⟨#[112,103,99,102,108]⟩:ByteArray).data.toList 103=1 from ix103]at this
   exact this)
  go_enter Tryz.func163,Tryz.ntmps163
  go_wp2_with (first
   | (go_at_call 171;(with_reducible refine cmo (C.out _) ?_);rintro e w1 ⟨rfl,hw⟩;obtain rfl:=hw.symm)
   | (go_at_call 87;(with_reducible refine cmo (Ix.out _) ?_);rintro e w1 ⟨rfl,hw⟩;obtain rfl:=hw.symm))
  go_ret
  exact⟨rfl,rfl⟩
 by_cases h2:c=99
 ·subst h2
  have C:=mh (show ∀W,Calls Tryz.prog 171 #[.string ⟨#[112,103,99,102,108]⟩,.string ⟨#[99]⟩] W (fun e w' => e = .returned (.bool true)∧w' = W) from fun W=>by
   have:=Tryz.strings_Contains_one ⟨#[112,103,99,102,108]⟩ 99 W;rw[show Lib.indexByte (⟨#[112,103,99,102,108]⟩:ByteArray).data.toList 99=2 from ix99]at this
   exact this)
  have Ix:=mh (show ∀W,Calls Tryz.prog 87 #[.string ⟨#[112,103,99,102,108]⟩,.string ⟨#[99]⟩] W (fun e w' => e = .returned (I O 2)∧w' = W) from fun W=>by
   have:=Tryz.strings_Index_one ⟨#[112,103,99,102,108]⟩ 99 W;rw[show Lib.indexByte (⟨#[112,103,99,102,108]⟩:ByteArray).data.toList 99=2 from ix99]at this
   exact this)
  go_enter Tryz.func163,Tryz.ntmps163
  go_wp2_with (first
   | (go_at_call 171;(with_reducible refine cmo (C.out _) ?_);rintro e w1 ⟨rfl,hw⟩;obtain rfl:=hw.symm)
   | (go_at_call 87;(with_reducible refine cmo (Ix.out _) ?_);rintro e w1 ⟨rfl,hw⟩;obtain rfl:=hw.symm))
  go_ret
  exact⟨rfl,rfl⟩
 by_cases h3:c=102
 ·subst h3
  have C:=mh (show ∀W,Calls Tryz.prog 171 #[.string ⟨#[112,103,99,102,108]⟩,.string ⟨#[102]⟩] W (fun e w' => e = .returned (.bool true)∧w' = W) from fun W=>by
   have:=Tryz.strings_Contains_one ⟨#[112,103,99,102,108]⟩ 102 W;rw[show Lib.indexByte (⟨#[112,103,99,102,108]⟩:ByteArray).data.toList 102=3 from ix102]at this
   exact this)
  have Ix:=mh (show ∀W,Calls Tryz.prog 87 #[.string ⟨#[112,103,99,102,108]⟩,.string ⟨#[102]⟩] W (fun e w' => e = .returned (I O 3)∧w' = W) from fun W=>by
   have:=Tryz.strings_Index_one ⟨#[112,103,99,102,108]⟩ 102 W;rw[show Lib.indexByte (⟨#[112,103,99,102,108]⟩:ByteArray).data.toList 102=3 from ix102]at this
   exact this)
  go_enter Tryz.func163,Tryz.ntmps163
  go_wp2_with (first
   | (go_at_call 171;(with_reducible refine cmo (C.out _) ?_);rintro e w1 ⟨rfl,hw⟩;obtain rfl:=hw.symm)
   | (go_at_call 87;(with_reducible refine cmo (Ix.out _) ?_);rintro e w1 ⟨rfl,hw⟩;obtain rfl:=hw.symm))
  go_ret
  exact⟨rfl,rfl⟩
 by_cases h4:c=108
 ·subst h4
  have C:=mh (show ∀W,Calls Tryz.prog 171 #[.string ⟨#[112,103,99,102,108]⟩,.string ⟨#[108]⟩] W (fun e w' => e = .returned (.bool true)∧w' = W) from fun W=>by
   have:=Tryz.strings_Contains_one ⟨#[112,103,99,102,108]⟩ 108 W;rw[show Lib.indexByte (⟨#[112,103,99,102,108]⟩:ByteArray).data.toList 108=4 from ix108]at this
   exact this)
  have Ix:=mh (show ∀W,Calls Tryz.prog 87 #[.string ⟨#[112,103,99,102,108]⟩,.string ⟨#[108]⟩] W (fun e w' => e = .returned (I O 4)∧w' = W) from fun W=>by
   have:=Tryz.strings_Index_one ⟨#[112,103,99,102,108]⟩ 108 W;rw[show Lib.indexByte (⟨#[112,103,99,102,108]⟩:ByteArray).data.toList 108=4 from ix108]at this
   exact this)
  go_enter Tryz.func163,Tryz.ntmps163
  go_wp2_with (first
   | (go_at_call 171;(with_reducible refine cmo (C.out _) ?_);rintro e w1 ⟨rfl,hw⟩;obtain rfl:=hw.symm)
   | (go_at_call 87;(with_reducible refine cmo (Ix.out _) ?_);rintro e w1 ⟨rfl,hw⟩;obtain rfl:=hw.symm))
  go_ret
  exact⟨rfl,rfl⟩
 have C:=mh (show ∀W,Calls Tryz.prog 171 #[.string ⟨#[112,103,99,102,108]⟩,.string ⟨#[c]⟩] W (fun e w' => e = .returned (.bool false)∧w' = W) from fun W=>by
  have:=Tryz.strings_Contains_one ⟨#[112,103,99,102,108]⟩ c W;rw[show Lib.indexByte (⟨#[112,103,99,102,108]⟩:ByteArray).data.toList c = -1 from ix_none h0 h1 h2 h3 h4]at this
  exact this)
 have HM:=mh (show markOf c=0 by unfold markOf;rw[if_neg h0,if_neg h1,if_neg h2,if_neg h3,if_neg h4]);clear h0 h1 h2 h3 h4
 go_enter Tryz.func163,Tryz.ntmps163
 go_wp2_with (first
  | (go_at_call 171;(with_reducible refine cmo (C.out _) ?_);rintro e w1 ⟨rfl,hw⟩;obtain rfl:=hw.symm))
 go_ret
 exact⟨by rw[HM.out];rfl,rfl⟩
structure RdAt (w:World) (rd:Nat) (ws:List ByteArray) (fl:Bool):Prop where
 row:∃p c,w.cell? ⟨rd,0,none⟩=some (.slice p ws.length c)∧Recs SB w p ws∧ws.length≤c∧(p=none→c=0)∧(∀a,p=some a→ws = []∨a.block<rd)
 fl:w.cell? ⟨rd,1,none⟩=some (.bool fl)
 f0:w.frozen? ⟨rd,0,none⟩=false
 f1:w.frozen? ⟨rd,1,none⟩=false
 lt:rd<w.heap.size
 wd:∀x∈ws,x.size≤16384
 len:ws.length≤1000000
theorem RdAt.below {w w' : World}{rd:Nat}{ws:List ByteArray}{fl:Bool}(h:RdAt w rd ws fl)(hb:Below w.heap.size w w'):RdAt w' rd ws fl:=by
 obtain⟨p,c,h1,h2,h3,h4,h5⟩:=h.row;exact⟨⟨p,c,(hb.cell (p:=⟨rd,0,none⟩) h.lt).trans h1,h2.below hb,h3,h4,h5⟩,(hb.cell (p:=⟨rd,1,none⟩) h.lt).trans h.fl,(hb.frozen (p:=⟨rd,0,none⟩) h.lt).trans h.f0,(hb.frozen (p:=⟨rd,1,none⟩) h.lt).trans h.f1,nll h.lt hb.size,h.wd,h.len⟩
theorem RdAt.fail {w:World}{rd:Nat}{ws:List ByteArray}{fl:Bool}(h:RdAt w rd ws fl):RdAt (w.setCell ⟨rd,1,none⟩ (.bool true)) rd ws true∧But rd w (w.setCell ⟨rd,1,none⟩ (.bool true)):=by
 have hB:But rd w (w.setCell ⟨rd,1,none⟩ (.bool true)):=⟨rfl,rfl,rfl,by simp[World.setCell],fun i _ hn=>Below.heap_setCell w _ _ _ hn⟩;obtain⟨p,c,h1,h2,h3,h4,h5⟩:=h.row;refine⟨⟨⟨p,c,by rw[World.cell?_setCell_other _ _ _ _ (by intro e;cases e)];exact h1,?_,h3,h4,h5⟩,World.cell?_setCell_same _ _ _ h.fl,by rw[World.frozen?_setCell];exact h.f0,by rw[World.frozen?_setCell];exact h.f1,by simpa [World.setCell] using h.lt,h.wd,h.len⟩,hB⟩;refine h2.blocks hB.size fun a e=>?_
 rcases h5 a e with h|h
 ·exact .inl h
 ·by_cases h0:ws = []
  ·exact .inl h0
  ·exact .inr (hB.block _ (h2.lt h0 e) (Nat.ne_of_lt h))
theorem RdAt.take {w:World}{rd:Nat}{x:ByteArray}{r:List ByteArray}{fl:Bool}(h:RdAt w rd (x::r) fl){p' : Option Addr}{c' : Nat}(h2:Recs SB w p' r)(h3:r.length≤c')(h4:p' = none→c' = 0)(h5:∀a,p' = some a→r = []∨a.block<rd) :
  RdAt (w.setCell ⟨rd,0,none⟩ (.slice p' r.length c')) rd r fl∧But rd w (w.setCell ⟨rd,0,none⟩ (.slice p' r.length c')):=by
 have hB:But rd w (w.setCell ⟨rd,0,none⟩ (.slice p' r.length c')):=⟨rfl,rfl,rfl,by simp[World.setCell],fun i _ hn=>Below.heap_setCell w _ _ _ hn⟩;obtain⟨p,c,g1, -⟩:=h.row;have hl:=h.len;rw[List.length_cons]at hl;refine⟨⟨⟨p', c', World.cell?_setCell_same _ _ _ g1,?_,h3,h4,h5⟩,by rw[World.cell?_setCell_other _ _ _ _ (by intro e;cases e)];exact h.fl,by rw[World.frozen?_setCell];exact h.f0,by rw[World.frozen?_setCell];exact h.f1,by simpa [World.setCell] using h.lt,fun y hy=>h.wd y (List.mem_cons_of_mem _ hy),by omega⟩,hB⟩;refine h2.blocks hB.size fun a e=>?_
 rcases h5 a e with h|h
 ·exact .inl h
 ·by_cases h0:r = []
  ·exact .inl h0
  ·exact .inr (hB.block _ (h2.lt h0 e) (Nat.ne_of_lt h))
theorem RdAt.head {w:World}{rd:Nat}{x:ByteArray}{r:List ByteArray}{fl:Bool}(h:RdAt w rd (x::r) fl) :
  ∃b off c,w.cell? ⟨rd,0,none⟩=some (.slice (some ⟨b,off,none⟩) (r.length+1) c)∧r.length+1≤c∧b<w.heap.size∧w.cell? ⟨b,off,none⟩=some (.string x)∧b<rd∧Recs SB w (some ⟨b,off+1,none⟩) r:=by
 obtain⟨p,c,h1,h2,h3,h4,h5⟩:=h.row;obtain⟨b,off,rfl,hb,hc⟩:=h2.at (k:=0) (by simp);have hd:=h2.drop 1;refine⟨b,off,c,h1,h3,hb,?_,?_,hd⟩
 ·have:=hc 0 (.string x) rfl
  rw[Nat.zero_mul,Nat.add_zero]at this;exact this
 ·rcases h5 _ rfl with h|h
  ·cases h
  ·exact h
def hdW (ws:List ByteArray):ByteArray:=match ws with | []=>⟨#[]⟩|x::_=>x
def flW (ws:List ByteArray) (fl:Bool):Bool:=match ws with | []=>true|_=>fl
def WordG (rd:Nat) (ws:List ByteArray) (fl:Bool) (w:World) (e:Ending) (w' : World):Prop:=e = .returned (.string (hdW ws))∧RdAt w' rd ws.tail (flW ws fl)∧But rd w w'
theorem rdword_any (rd:Nat)(ws:List ByteArray)(fl:Bool)(w:World)(h:RdAt w rd ws fl) :
  Calls Tryz.prog 146 #[.pointer (some ⟨rd,0,none⟩)] w (WordG rd ws fl w):=by
 cases ws with
 | nil =>
   obtain⟨p,c,h1, -⟩:=h.row;have h2:=h.fl;have h3:=h.f1;have hF:=mh h.fail;have hl:=h.lt;clear h
   go_enter Tryz.func146,Tryz.ntmps146
   go_wp2
   go_ret
   exact⟨rfl,hF.out.1,hF.out.2⟩
 | cons x r =>
   obtain⟨b,off,c,h1,h2,h3,h4,h5,h6⟩:=h.head;have h7:b≠rd:=Nat.ne_of_lt h5;have hl:=h.len;rw[List.length_cons]at hl;have g0:=h.f0;have hlt:=h.lt
   by_cases hc:c=1
   ·subst hc
    have hr:r = []:=List.length_eq_zero_iff.1 (by omega);subst hr;have HT:=mh (h.take (p' := some ⟨b,off,none⟩) (c' := 0) (Recs.nil _ _) (by simp) (fun e=>by cases e) (fun a _ => .inl rfl));clear h h6
    go_enter Tryz.func146,Tryz.ntmps146
    go_wp2
    go_ret
    exact⟨rfl,HT.out.1,HT.out.2⟩
   ·have HT:=mh (h.take (p' := some ⟨b,off+1,none⟩) (c' := c - 1) h6 (by omega) (fun e=>by cases e) (fun a e => .inr (by cases e;exact h5)))
    have hc1:1<c:=by omega
    have hc2:(1:Int)≤(c:Int):=by omega
    have hc3:(c==1)=false:=beq_eq_false_iff_ne.2 hc;clear h h6
    go_enter Tryz.func146,Tryz.ntmps146
    go_wp2
    go_ret
    exact⟨rfl,HT.out.1,HT.out.2⟩
theorem numM_val (l:List UInt8):Wo.numV l (-1125899906842624) 1125899906842624=(numM l).getD 0∧Wo.numB l (-1125899906842624) 1125899906842624=(numM l).isSome:=by
 unfold Wo.numV Wo.numB numM
 cases Wo.numO l with
 | none=>exact⟨rfl,rfl⟩
 | some v=>simp only;split<;>exact⟨rfl,rfl⟩
theorem numM_nil:numM []=none:=by decide +kernel
def flag (o:Option Int) (fl:Bool):Bool:=match o with|some _=>fl|none=>true
def NumRG (rd:Nat) (o:Option Int) (ws:List ByteArray) (fl:Bool) (w:World) (e:Ending) (w' : World):Prop:=e = .returned (I O (o.getD 0))∧RdAt w' rd ws.tail (flag o fl)∧But rd w w'
theorem rdnumber_any (rd:Nat)(ws:List ByteArray)(fl:Bool)(w:World)(h:RdAt w rd ws fl)(hE:∀W,But rd w W→Env W) :
  Calls Tryz.prog 147 #[.pointer (some ⟨rd,0,none⟩)] w (NumRG rd (numM (hdW ws).data.toList) ws fl w):=by
 have hsz:(hdW ws).size≤281474976710656:=by
  cases ws with
  | nil=>show 0≤_;omega
  | cons x r=>have:=h.wd x List.mem_cons_self;show x.size≤_;omega
 have hn:(numM (hdW ws).data.toList).isSome=true→flW ws fl=fl:=by
  cases ws with
  | nil=>intro e;rw[show(hdW []).data.toList = [] from rfl,numM_nil]at e;cases e
  | cons x r=>intro _;rfl
 have WD:=mh (rdword_any rd ws fl w h);obtain⟨hv,hb⟩:=numM_val (hdW ws).data.toList
 have NM:=mh (fun (W:World) (hW:But rd w W)=>show Calls Tryz.prog 78 #[.string (hdW ws),I O (-1125899906842624),I O 1125899906842624] W (fun e w' => e = .returned (.tuple #[I O ((numM (hdW ws).data.toList).getD 0),.bool (numM (hdW ws).data.toList).isSome])∧Below W.heap.size W w') by
  have:=number_any (hdW ws) (-1125899906842624) 1125899906842624 W (hE W hW) hsz;unfold NumGive at this;rw[hv,hb]at this
  exact this)
 unfold WordG at WD;obtain⟨s,es⟩:∃s,hdW ws=s:=⟨_,rfl⟩;obtain⟨f1,ef⟩:∃f,flW ws fl=f:=⟨_,rfl⟩;rw[ef]at hn;rw[ef,es]at WD;rw[es]at NM hn ⊢;obtain⟨o,eo⟩:∃o,numM s.data.toList=o:=⟨_,rfl⟩;rw[eo]at NM hn ⊢;clear h hE hsz hv hb es ef eo
 cases o with
 | none =>
   have NM:=mh (fun (W:World) (hW:But rd w W)=>show Calls Tryz.prog 78 #[.string s,I O (-1125899906842624),I O 1125899906842624] W (fun e w' => e = .returned (.tuple #[I O 0,.bool false])∧Below W.heap.size W w') from NM.out W hW)
   go_enter Tryz.func147,Tryz.ntmps147
   go_wp2_with (first
    | (go_at_call 146;(with_reducible refine cmo WD.out ?_);rintro e w1 ⟨rfl,hr1,hb1⟩;have HR:=mh hr1;have HB:=mh hb1;clear hr1 hb1)
    | (go_at_call 78;(with_reducible refine cmo (NM.out _ HB.out) ?_);rintro e w2 ⟨rfl,hb2⟩;have HR2:=mh (HR.out.below hb2);have HF2:=mh HR2.out.fail;have HB2:=mh (HB.out.nxt hb2);have k1:=HR2.out.fl;have k2:=HR2.out.f1;have k3:=HR2.out.lt;clear hb2)
    | fail)
   go_ret
   exact⟨rfl,HF2.out.1,HB2.out.trans HF2.out.2⟩
 | some v =>
   have NM:=mh (fun (W:World) (hW:But rd w W)=>show Calls Tryz.prog 78 #[.string s,I O (-1125899906842624),I O 1125899906842624] W (fun e w' => e = .returned (.tuple #[I O v,.bool true])∧Below W.heap.size W w') from NM.out W hW);obtain rfl:=hn rfl
   go_enter Tryz.func147,Tryz.ntmps147
   go_wp2_with (first
    | (go_at_call 146;(with_reducible refine cmo WD.out ?_);rintro e w1 ⟨rfl,hr1,hb1⟩;have HR:=mh hr1;have HB:=mh hb1;clear hr1 hb1)
    | (go_at_call 78;(with_reducible refine cmo (NM.out _ HB.out) ?_);rintro e w2 ⟨rfl,hb2⟩;have HR2:=mh (HR.out.below hb2);have HB2:=mh (HB.out.nxt hb2);clear hb2)
    | fail)
   go_ret
   exact⟨rfl,HR2.out,HB2.out⟩
theorem letter_nil:letter []=none:=rfl
theorem letter_bd {s:List UInt8}{m:Int}(h:letter s=some m):m≠0∧0≤m∧m≤31:=by
 unfold letter at h
 split at h
 ·next c =>
  split at h
  ·cases h
  ·cases h
   have:=Cr.markOf_lt c;omega
 ·cases h
theorem markS_any (s:ByteArray)(w:World)(hs:s.size≤9223372036854775807):Calls Tryz.prog 163 #[.string s] w fun e w' => e = .returned (I O ((letter s.data.toList).getD 0))∧w=w' :=by
 by_cases h1:s.size=1
 ·obtain⟨c,rfl⟩:∃c,s=⟨#[c]⟩:=by
   obtain⟨⟨l⟩⟩:=s
   match l,h1 with
   | [c],_=>exact⟨c,rfl⟩
  have e:(letter (⟨#[c]⟩:ByteArray).data.toList).getD 0=(Cr.markOf c:Int):=by
   show(letter [c]).getD 0=_
   unfold letter;simp only
   split
   ·next h=>rw[h];rfl
   ·rfl
  rw[e];exact mark_any c w
 ·have e:letter s.data.toList=none:=by
   have:s.data.toList.length≠1:=by rw[sz_len];exact h1
   unfold letter
   split
   ·next c e=>rw[e]at this;exact absurd rfl this
   ·rfl
  rw[e];have h2:((s.size:Int) != 1)=true:=bne_iff_ne.2 (by omega);have h3:¬(s.size:Int)=1:=by omega
  clear e h1
  go_enter Tryz.func163,Tryz.ntmps163
  go_wp2
  go_ret
  exact⟨rfl,rfl⟩
theorem rdmark_any (rd:Nat)(ws:List ByteArray)(fl:Bool)(w:World)(h:RdAt w rd ws fl) :
  Calls Tryz.prog 148 #[.pointer (some ⟨rd,0,none⟩)] w (NumRG rd (letter (hdW ws).data.toList) ws fl w):=by
 have hsz:(hdW ws).size≤9223372036854775807:=by
  cases ws with
  | nil=>show 0≤_;omega
  | cons x r=>have:=h.wd x List.mem_cons_self;show x.size≤_;omega
 have hn:(letter (hdW ws).data.toList).isSome=true→flW ws fl=fl:=by
  cases ws with
  | nil=>intro e;cases e
  | cons x r=>intro _;rfl
 have WD:=mh (rdword_any rd ws fl w h);have NM:=mh (fun (W:World)=>markS_any (hdW ws) W hsz);unfold WordG at WD;obtain⟨s,es⟩:∃s,hdW ws=s:=⟨_,rfl⟩;obtain⟨f1,ef⟩:∃f,flW ws fl=f:=⟨_,rfl⟩;rw[ef]at hn;rw[ef,es]at WD;rw[es]at NM hn ⊢;have hbd:=fun v=>letter_bd (s:=s.data.toList) (m:=v)
 obtain⟨o,eo⟩:∃o,letter s.data.toList=o:=⟨_,rfl⟩;rw[eo]at NM hn hbd ⊢;clear h hsz es ef eo
 cases o with
 | none =>
   have NM:=mh (fun (W:World)=>show Calls Tryz.prog 163 #[.string s] W (fun e w' => e = .returned (I O 0)∧W=w') from NM.out W);clear hbd
   go_enter Tryz.func148,Tryz.ntmps148
   go_wp2_with (first
    | (go_at_call 146;(with_reducible refine cmo WD.out ?_);rintro e w1 ⟨rfl,hr1,hb1⟩;have HR:=mh hr1;have HB:=mh hb1;have HF2:=mh HR.out.fail;have k1:=HR.out.fl;have k2:=HR.out.f1;have k3:=HR.out.lt;clear hr1 hb1)
    | (go_at_call 163;(with_reducible refine cmo (NM.out _) ?_);rintro e w2 ⟨rfl,rfl⟩)
    | fail)
   go_ret
   exact⟨rfl,HF2.out.1,HB.out.trans HF2.out.2⟩
 | some v =>
   have NM:=mh (fun (W:World)=>show Calls Tryz.prog 163 #[.string s] W (fun e w' => e = .returned (I O v)∧W=w') from NM.out W);obtain rfl:=hn rfl;obtain⟨v0,v1,v2⟩:=hbd v rfl;have v3:(v==0)=false:=beq_eq_false_iff_ne.2 v0;clear hbd
   go_enter Tryz.func148,Tryz.ntmps148
   go_wp2_with (first
    | (go_at_call 146;(with_reducible refine cmo WD.out ?_);rintro e w1 ⟨rfl,hr1,hb1⟩;have HR:=mh hr1;have HB:=mh hb1;clear hr1 hb1)
    | (go_at_call 163;(with_reducible refine cmo (NM.out _) ?_);rintro e w2 ⟨rfl,rfl⟩)
    | fail)
   go_ret
   exact⟨rfl,HR.out,HB.out⟩
def ll (ws:List ByteArray):List (List UInt8):=ws.map (·.data.toList)
theorem ll_bs (r:List (List UInt8)):ll (r.map bs)=r:=by
 unfold ll;rw[List.map_map];have:∀x∈r,((fun x:ByteArray=>x.data.toList) ∘ bs) x=x:=fun x _=>rfl
 rw[List.map_congr_left this,List.map_id']
theorem bs_ll (ws:List ByteArray):(ll ws).map bs=ws:=by
 unfold ll;rw[List.map_map];have:∀x∈ws,(bs ∘ fun x:ByteArray=>x.data.toList) x=x:=fun x _=>rfl
 rw[List.map_congr_left this,List.map_id']
theorem ll_len (ws:List ByteArray):(ll ws).length=ws.length:=by unfold ll;rw[List.length_map]
def NewQ (B:Nat):Nat→Prop:=fun b=>B≤b
def TermOk (rd B:Nat) (o:Option (Tm × List (List UInt8))) (row:RT) (w' : World):Prop :=
 match o with
 | some (t,r)=>RdAt w' rd (r.map bs) false∧∃d,TV (NewQ B) w' d row t
 | none=>∃ws', RdAt w' rd ws' true
def TermG (rd:Nat) (o:Option (Tm × List (List UInt8))) (w:World) (e:Ending) (w' : World):Prop :=
 ∃row:RT,e = .returned (.agg #[I O row.op,I O row.num,I O row.more,.slice row.p row.n row.c])∧But rd w w' ∧ TermOk rd w.heap.size o row w'
def ListOk (rd B:Nat) (o:Option (List Tm × List (List UInt8))) (p:Option Addr) (n c:Nat) (w' : World):Prop :=
 match o with
 | some (K,r)=>RdAt w' rd (r.map bs) false∧n=K.length∧n≤c∧(p=none→c=0)∧∃d,TmsAt (NewQ B) w' d p K
 | none=>∃ws', RdAt w' rd ws' true
def ListG (rd:Nat) (o:Option (List Tm × List (List UInt8))) (w:World) (e:Ending) (w' : World):Prop :=
 ∃p n c,e = .returned (.slice p n c)∧But rd w w' ∧ ListOk rd w.heap.size o p n c w'
structure Res4 (b:Nat) (W:World):Prop where
 c0:W.cell? ⟨b,0,none⟩=some (I O 0)
 c1:W.cell? ⟨b,1,none⟩=some (I O 0)
 c2:W.cell? ⟨b,2,none⟩=some (I O 0)
 c3:W.cell? ⟨b,3,none⟩=some (.slice none 0 0)
 f0:W.frozen? ⟨b,0,none⟩=false
 f1:W.frozen? ⟨b,1,none⟩=false
 f2:W.frozen? ⟨b,2,none⟩=false
 f3:W.frozen? ⟨b,3,none⟩=false
 lt:b<W.heap.size
theorem Res4.blk {b:Nat}{W W' : World}(h:Res4 b W)(hs:W.heap.size≤W'.heap.size)(e:W'.heap[b]?=W.heap[b]?):Res4 b W' :=by
 have c:∀i,W'.cell? ⟨b,i,none⟩=W.cell? ⟨b,i,none⟩:=fun i=>World.cell?_of_block (w:=W) e
 have f:∀i,W'.frozen? ⟨b,i,none⟩=W.frozen? ⟨b,i,none⟩:=fun i=>by simp only[World.frozen?,e]
 exact⟨(c 0).trans h.c0,(c 1).trans h.c1,(c 2).trans h.c2,(c 3).trans h.c3,(f 0).trans h.f0,(f 1).trans h.f1,(f 2).trans h.f2,(f 3).trans h.f3,nll h.lt hs⟩
theorem Res4.but {b t:Nat}{W W' : World}(h:Res4 b W)(hb:But t W W')(hne:b≠t):Res4 b W' := h.blk hb.size (hb.block b h.lt hne)
theorem Res4.new (w:World)(T:TypeId):Res4 w.heap.size (w.alloc (.cells #[I O 0,I O 0,I O 0,.slice none 0 0] T)):=by
 have f:∀i,(w.alloc (.cells #[I O 0,I O 0,I O 0,.slice none 0 0] T)).frozen? ⟨w.heap.size,i,none⟩=false:=fun i=>by
  simp only[World.frozen?,World.alloc_heap_new];simp
 exact⟨cwn _ _ _ 0,cwn _ _ _ 1,cwn _ _ _ 2,cwn _ _ _ 3,f 0,f 1,f 2,f 3,by simp⟩
def put4 (W:World) (b:Nat) (x0 x1 x2 x3:Value):World:=(((W.setCell ⟨b,0,none⟩ x0).setCell ⟨b,1,none⟩ x1).setCell ⟨b,2,none⟩ x2).setCell ⟨b,3,none⟩ x3
theorem put4_at {b:Nat}{W:World}(h:Res4 b W)(x0 x1 x2 x3:Value):(put4 W b x0 x1 x2 x3).cell? ⟨b,0,none⟩=some x0∧(put4 W b x0 x1 x2 x3).cell? ⟨b,1,none⟩=some x1∧(put4 W b x0 x1 x2 x3).cell? ⟨b,2,none⟩=some x2∧(put4 W b x0 x1 x2 x3).cell? ⟨b,3,none⟩=some x3:=by
 unfold put4;refine⟨?_,?_,?_,?_⟩
 ·rw[World.cell?_setCell_other _ _ _ _ (fun e=>by cases e),World.cell?_setCell_other _ _ _ _ (fun e=>by cases e),World.cell?_setCell_other _ _ _ _ (fun e=>by cases e),World.cell?_setCell_same _ _ _ h.c0]
 ·rw[World.cell?_setCell_other _ _ _ _ (fun e=>by cases e),World.cell?_setCell_other _ _ _ _ (fun e=>by cases e),World.cell?_setCell_same _ _ _ ((World.cell?_setCell_other _ _ _ _ (fun e=>by cases e)).trans h.c1)]
 ·rw[World.cell?_setCell_other _ _ _ _ (fun e=>by cases e),World.cell?_setCell_same _ _ _ ((World.cell?_setCell_other _ _ _ _ (fun e=>by cases e)).trans ((World.cell?_setCell_other _ _ _ _ (fun e=>by cases e)).trans h.c2))]
 ·rw[World.cell?_setCell_same _ _ _ ((World.cell?_setCell_other _ _ _ _ (fun e=>by cases e)).trans ((World.cell?_setCell_other _ _ _ _ (fun e=>by cases e)).trans ((World.cell?_setCell_other _ _ _ _ (fun e=>by cases e)).trans h.c3)))]
theorem put4_block (W:World)(b:Nat)(x0 x1 x2 x3:Value):(put4 W b x0 x1 x2 x3).heap.size=W.heap.size∧∀k,k≠b→(put4 W b x0 x1 x2 x3).heap[k]?=W.heap[k]?:=by
 refine⟨by simp[put4,World.setCell],fun k hk=>?_⟩
 unfold put4
 simp[World.setCell,Array.getElem?_modify,Ne.symm hk]
theorem put4_below {B b:Nat}{W:World}(hb:B≤b)(x0 x1 x2 x3:Value):Below B W (put4 W b x0 x1 x2 x3) :=
 ((((brf B W).setCell hb _).setCell hb _).setCell hb _).setCell hb _
theorem put4_but {rd:Nat}{w W:World}(hb:But rd w W)(x0 x1 x2 x3:Value):But rd w (put4 W w.heap.size x0 x1 x2 x3) :=
 hb.stpB (put4_below mle x0 x1 x2 x3) mle
theorem RdAt.put4 {rd b:Nat}{W:World}{ws:List ByteArray}{fl:Bool}(h:RdAt W rd ws fl)(hlt:rd<b)(x0 x1 x2 x3:Value):RdAt (put4 W b x0 x1 x2 x3) rd ws fl:=by
 obtain⟨hs,hk⟩:=put4_block W b x0 x1 x2 x3;have e:=hk rd (Nat.ne_of_lt hlt);have c:∀i,(Go.Proofs.YtbcmabolkkfgfaaGreatDoor.put4 W b x0 x1 x2 x3).cell? ⟨rd,i,none⟩=W.cell? ⟨rd,i,none⟩:=fun i=>World.cell?_of_block (w:=W) e
 have f:∀i,(Go.Proofs.YtbcmabolkkfgfaaGreatDoor.put4 W b x0 x1 x2 x3).frozen? ⟨rd,i,none⟩=W.frozen? ⟨rd,i,none⟩:=fun i=>by simp only[World.frozen?,e]
 obtain⟨p,cc,h1,h2,h3,h4,h5⟩:=h.row;refine⟨⟨p,cc,(c 0).trans h1,h2.blocks (by rw[hs];exact Nat.le_refl _) fun a ea=>?_,h3,h4,h5⟩,(c 1).trans h.fl,(f 0).trans h.f0,(f 1).trans h.f1,by rw[hs];exact h.lt,h.wd,h.len⟩
 rcases h5 a ea with h0|h0
 ·exact .inl h0
 ·exact .inr (hk _ (by omega))
end Go.Proofs.YtbcmabolkkfgfaaGreatDoor
