/- Packed. -/
import Derived.Test.YtbcmabolkkfgfaaGreatDoorQ19
set_option maxRecDepth 100000
set_option maxHeartbeats 8000000
open Go.Value renaming int → I
open Go.IntKind renaming i64 → O
namespace Go.Proofs.YtbcmabolkkfgfaaGreatDoor
open Go.RowKit Te Sc
structure MkS (t:Nat) (l:List Int) (w4 wr:World) (g:Nat) (num:Int) (nm:ByteArray) (row:RT) (least:Int) (needs:Bool) (bp:Option Addr) (bn bc:Nat) (br:List Brk) (q:Nat):Prop where
 cells:SCells wr g 0 ⟨num,nm,row,bp,bn,bc,least,0,needs⟩
 fr:∀i,wr.frozen? ⟨g,i,none⟩=false
 own:OwnR SBk wr 54 (g+1) (.slice bp bn bc) br
 bn:br.length=bn
 tape:TapeAt wr t l q
 but:But t w4 wr
 lt:g<wr.heap.size
theorem SCells.blk {w w' : World}{b o:Nat}{r:RSx}(h:SCells w b o r)(e:w'.heap[b]?=w.heap[b]?):SCells w' b o r:=by
 have c:∀i,w'.cell? ⟨b,i,none⟩=w.cell? ⟨b,i,none⟩:=fun i=>World.cell?_of_block (w:=w) (a:=⟨b,i,none⟩) e
 exact⟨(c _).trans h.c0,(c _).trans h.c1,(c _).trans h.c2,(c _).trans h.c3,(c _).trans h.c4,(c _).trans h.c5,(c _).trans h.c6,(c _).trans h.c7,(c _).trans h.c8,(c _).trans h.c9⟩
theorem MkS.next {t:Nat}{l:List Int}{w4 wr w' : World}{g:Nat}{num:Int}{nm:ByteArray}{row:RT}{least:Int}{needs:Bool}{bp:Option Addr}{bn bc:Nat}{br:List Brk}{q q' : Nat}(h:MkS t l w4 wr g num nm row least needs bp bn bc br q)(hb:But t wr w')(ht:TapeAt w' t l q')(hg:t<g) :
  MkS t l w4 w' g num nm row least needs bp bn bc br q' :=by
 have e:=hb.block g h.lt (by omega);exact⟨h.cells.blk e,fun i=>by have:=h.fr i;simp only[World.frozen?,e]at *;exact this,h.own.but hb (by omega),h.bn,ht,h.but.trans hb,nll h.lt hb.size⟩
theorem MkS.sv {t:Nat}{l:List Int}{w4 wr:World}{g B d:Nat}{num:Int}{nm:ByteArray}{row:RT}{tm:Tm}{least:Int}{needs:Bool}{bp:Option Addr}{bn bc:Nat}{br:List Brk}{q:Nat}(h:MkS t l w4 wr g num nm row least needs bp bn bc br q)(hv:TV (NewQ B) w4 d row tm)(hB:B≤g)(htB:t<B) :
  SV (NewQ B) wr d ⟨num,nm,row,bp,bn,bc,least,0,needs⟩ ⟨num,nm,tm,br,least,0,needs⟩:=by
 obtain⟨p,c,e,h1,h2,h3, -,h5⟩:=h.own.cut h.bn;simp only[Value.slice.injEq,true_and]at e;obtain⟨rfl,rfl⟩:=e;exact⟨rfl,rfl,hv.change h.but.size fun b hq hl=>⟨h.but.block b hl (by unfold NewQ at hq;omega),hq⟩,h5,h.bn.symm,h3,fun e=>(h1 e).1,fun a ea => .inr (by have:=(h2 a ea).2.2.1;unfold NewQ;omega),rfl,rfl,rfl⟩
theorem MkS.snoc {t:Nat}{l:List Int}{w4 w5 w6 w7:World}{g G:Nat}{num:Int}{nm:ByteArray}{row:RT}{least:Int}{needs:Bool}{bp p7:Option Addr}{bn bc n7 c7:Nat}{br:List Brk}{b:Brk}{q:Nat}(h:MkS t l w4 w5 g num nm row least needs bp bn bc br q)(hb:Below w5.heap.size w5 w6)
  (hO:OwnR SBk w7 54 (g+1) (.slice p7 n7 c7) (br ++ [b])) (hn:br.length+1=n7) (hap:Appends w6 w7 (g+1) G (.slice bp bn bc) (.slice p7 n7 c7)) (ht:t<g) (hg:w4.heap.size≤g) :
  MkS t l w4 (w7.setCell ⟨g,6,none⟩ (.slice p7 n7 c7)) g num nm row least needs p7 n7 c7 (br ++ [b]) q:=by
 have hl6:=nll h.lt hb.size;have e7:w7.heap[g]?=w5.heap[g]?:=(hap.below.block g (Nat.lt_succ_self g)).trans (hb.block g h.lt);obtain⟨c0,c1,c2,c3,c4,c5,c6,c7', c8,c9⟩:=h.cells.blk e7;have far:∀{i:Nat} {u:Value},i≠6→w7.cell? ⟨g,0+i,none⟩=some u→(w7.setCell ⟨g,6,none⟩ (.slice p7 n7 c7)).cell? ⟨g,0+i,none⟩=some u:=fun hi hu=>(World.cell?_setCell_other _ _ _ _ (fun e=>by injection e with _ e;omega)).trans hu
 have hS:Below g w7 (w7.setCell ⟨g,6,none⟩ (.slice p7 n7 c7)):=scBelow _ _ _ _ mle;refine⟨⟨far (i:=0) (by decide) c0,far (i:=1) (by decide) c1,far (i:=2) (by decide) c2,far (i:=3) (by decide) c3,far (i:=4) (by decide) c4,far (i:=5) (by decide) c5,?_,far (i:=7) (by decide) c7', far (i:=8) (by decide) c8,far (i:=9) (by decide) c9⟩,fun i=>?_,?_,?_,?_,?_,?_⟩
 ·have:(0+6)=6:=rfl
  exact World.cell?_setCell_same _ _ _ c6
 ·rw[World.frozen?_setCell]
  have:=h.fr i;simp only[World.frozen?,e7]at *;exact this
 ·exact hO.setOther (fun e=>by have:=(hO.lt e).1;omega) _
 ·rw[lap];exact hn
 ·exact((h.tape.below hb).belowB hap.below (by omega)).belowB hS ht
 ·exact((h.but.nxt hb).stpB hap.below (by omega)).stpB hS hg
 ·rw[setCell_sz];exact nll hl6 hap.size
structure LwS (t:Nat) (l:List Int) (w wr:World) (v:Value) (L:List Sch) (kk most q:Nat):Prop where
 at_:LwAt w.heap.size wr v L
 len:L.length+kk≤most
 sm:∀s∈L,SmallS s
 tape:TapeAt wr t l q
 but:But t w wr
theorem LwS.next {t:Nat}{l:List Int}{w wr w' : World}{v:Value}{L:List Sch}{kk most q q' : Nat}(h:LwS t l w wr v L kk most q)(hb:But t wr w')(ht:TapeAt w' t l q')(htw:t<w.heap.size):LwS t l w w' v L kk most q' :=
 ⟨h.at_.but hb htw,h.len,h.sm,ht,h.but.trans hb⟩
theorem LwS.put {t:Nat}{l:List Int}{w wa:World}{v:Value}{L:List Sch}{kk most q g k:Nat}(h:LwS t l w wa v L kk most q)(hk:k<L.length)(hg:w.heap.size≤g)(htw:t<w.heap.size)(x:Int)
  (hp:LwAt w.heap.size (wa.setCell ⟨g,k*10+8,none⟩ (I O x)) v (L.set k { L[k] with ex:=x })):LwS t l w ((wa.setCell ⟨g,k*10+8,none⟩ (I O x)).drew) v (L.set k { L[k] with ex:=x }) kk most q:=by
 have hb:=scBelow wa g (k*10+8) (I O x) hg;have hd:Below (wa.setCell ⟨g,k*10+8,none⟩ (I O x)).heap.size (wa.setCell ⟨g,k*10+8,none⟩ (I O x)) (wa.setCell ⟨g,k*10+8,none⟩ (I O x)).drew:=(brf _ _).drew;exact⟨hp.below hd,by rw[List.length_set];exact h.len,SmallS.put h.sm hk x,(h.tape.belowB hb htw).below hd,(h.but.stpB hb mle).drew⟩
theorem LawGive.nil {t:Nat}{l:List Int}{most q:Nat}{w w' : World}(ht:TapeAt w' t l q)(hb:But t w w'):LawGive t l most w (.returned (.slice none 0 0)) w' :=
 ⟨_, [],q,rfl,LwAt.nil _ _,rfl,Nat.zero_le _,(fun s hs=>by cases hs),ht,hb⟩
theorem LwS.give {t:Nat}{l:List Int}{w wa w' : World}{v:Value}{L:List Sch}{most q:Nat}(h:LwS t l w wa v L 0 most q)(hb:Below wa.heap.size wa w')(hc:chk17 L=(-1,0)):LawGive t l most w (.returned v) w' :=
 ⟨v,L,q,rfl,h.at_.below hb,hc,h.len,h.sm,h.tape.below hb,h.but.nxt hb⟩
theorem tapeLaw_any (t:Nat)(l:List Int)(q0 most:Nat)(hm:most≤3)(w:World)(h:TapeAt w t l q0) :
  Calls Tryz.prog 7 #[.pointer (some ⟨t,0,none⟩),I O (most:Int)] w (LawGive t l most w):=by
 have htl:=h.lt;obtain⟨G0,eG0⟩:∃g,gives l q0 2=g:=⟨_,rfl⟩;have b0:=gives_bd l q0 (n:=2) (by omega);rw[eG0]at b0;obtain⟨N0,rfl⟩:∃N:Nat,G0=(N:Int):=Int.eq_ofNat_of_zero_le b0.1;obtain⟨q1,eq1⟩:∃x,taken l q0=x:=⟨_,rfl⟩;obtain⟨G1,eG1⟩:∃g,gives l q1 ((most:Int)+1)=g:=⟨_,rfl⟩;have b1:=gives_bd l q1 (n:=(most:Int)+1) (by omega);rw[eG1]at b1;obtain⟨K0,rfl⟩:∃N:Nat,G1=(N:Int):=Int.eq_ofNat_of_zero_le b1.1;obtain⟨q2,eq2⟩:∃x,taken l q1=x:=⟨_,rfl⟩;have TA:=mh (fun (W:World) (hW:TapeAt W t l q0)=>eq1▸eG0▸next_any t l q0 2 W hW (by omega));have TB:=mh (fun (W:World) (hW:TapeAt W t l q1)=>eq2▸eG1▸next_any t l q1 ((most:Int)+1) W hW (by omega));have HT0:=mh h;have HK0:=mh (show K0≤most by omega);have HN0:=mh (show N0≤5 by omega);clear h eG0 eq1 eG1 eq2 b0 b1
 go_enter Tryz.func7,Tryz.ntmps7
 go_wp2_with (go_at_call 23;(with_reducible refine cmo (TA.out _ HT0.out) ?_);rintro e w1 ⟨rfl,ht1,hb1⟩)
 (with_reducible refine cmo (TB.out _ ht1) ?_);rintro e w2 ⟨rfl,ht2,hb2⟩;have ST:=mh (show LwS t l w w2 (.slice none 0 0) [] K0 most q2 from⟨LwAt.nil _ _,(by have:=HK0.out;simp;omega),(fun s hs=>by cases hs),ht2,hb1.trans hb2⟩);clear ht1 hb1 ht2 hb2 TA TB HT0
 go_wp2_with fail
 go_loopw [5,6,7] (fun v nb k wr=>∃(kk nn:Nat) (L:List Sch) (q:Nat),k=I O kk∧nb=I O nn∧nn≤5∧LwS t l w wr v L kk most q) (fun _ _ k _=>(intOf k).toNat)
 case atStart=>exact⟨K0,N0, [],q2,rfl,rfl,HN0.out,ST.out⟩
 case round =>
  clear ST;obtain⟨wo,rfl⟩:∃wo:World,wo=wr:=⟨_,rfl⟩;obtain⟨kk,nn,L,q,rfl,rfl,hn5,hS⟩:=hrel;have HS:=mh hS;have hkk0:(0:Int)≤(kk:Int):=inn _;have hnn0:(0:Int)≤(nn:Int):=inn _;clear hS
  rcases (show kk=0∨(0<kk∧3<nn)∨(0<kk∧nn≤3) by omega) with rfl|⟨hk,hn3⟩|⟨hk,hn3⟩
  ·rw[show((0:Nat):Int)=0 from rfl]
   obtain⟨n,hn⟩:∃n,L.length=n:=⟨_,rfl⟩;obtain⟨p,c,d,rfl,hnc, -, -⟩:=HS.out.at_.ss hn;have hn3' : n≤3:=by have:=HS.out.len;omega
   have HS0:=mh (show LwS t l w wo (.slice p n c) L 0 most q from⟨HS.out.at_,by have:=HS.out.len;omega,HS.out.sm,HS.out.tape,HS.out.but⟩);have HN:=mh hn;clear HS hn
   go_wp2_with fail
   go_loopw [69] (fun i wr=>∃(j:Nat) (L:List Sch) (q:Nat),j≤n∧i=I O j∧L.length=n∧LwS t l w wr (.slice p n c) L 0 most q) (fun i _=>n - (intOf i).toNat)
   case atStart=>exact⟨0,L,q,Nat.zero_le _,rfl,HN.out,HS0.out⟩
   case round =>
    clear HS0 HN;obtain⟨wi,rfl⟩:∃wi:World,wi=wr:=⟨_,rfl⟩;obtain⟨j,L,q,hj,rfl,hLn,hS⟩:=hrel;have HS:=mh hS;have hj0:(0:Int)≤(j:Int):=inn _;clear hS
    by_cases hjn:j<n
    ·have hj1:(j:Int)<(n:Int):=by omega
     have hjc:(j:Int)≤(c:Int):=by omega
     obtain⟨g,c', -,ev, -, -, -, -, -, -, -, -⟩:=HS.out.at_.at (k:=j) (by omega);rw[hLn]at ev;simp only[Value.slice.injEq,true_and]at ev;obtain⟨rfl, -⟩:=ev;have HLN:=mh hLn;clear hLn
     go_wp2_with fail
     go_loopw [76] (fun i wr=>∃(k:Nat) (L:List Sch) (q:Nat),k≤j∧i=I O k∧L.length=n∧LwS t l w wr (.slice (some ⟨g,0,none⟩) n c) L 0 most q) (fun i _=>j - (intOf i).toNat)
     case atStart=>exact⟨0,L,q,Nat.zero_le _,rfl,HLN.out,HS.out⟩
     case round =>
      clear HS HLN;obtain⟨wz,rfl⟩:∃wz:World,wz=wr:=⟨_,rfl⟩;obtain⟨k,L,q,hk,rfl,hLn,hS⟩:=hrel;have HS:=mh hS;have HLN:=mh hLn;have hk0:(0:Int)≤(k:Int):=inn _;clear hS hLn
      by_cases hkj:k<j
      ·have hk1:(k:Int)<(j:Int):=by omega
       have hk2:(k:Int)<(n:Int):=by omega
       obtain⟨z,ez⟩:∃z,(gives l q 3==3 - 1)=z:=⟨_,rfl⟩;obtain⟨qa,eqa⟩:∃q', taken l q=q' := ⟨_,rfl⟩
       have ON:=mh (show ∀W,TapeAt W t l q→Calls Tryz.prog 26 #[.pointer (some ⟨t,0,none⟩),I O 3] W (fun e w' => e = .returned (.bool z)∧TapeAt w' t l qa∧But t W w') from fun W hW=>by
        have:=one_any t l q 3 W hW (by omega) (by omega);rw[ez,eqa]at this
        exact this)
       clear ez eqa
       cases z
       ·go_wp2_with (go_at_call 26;(with_reducible refine cmo (ON.out _ HS.out.tape) ?_);rintro e wa ⟨rfl,hta,hba⟩;have HSa:=mh (HS.out.next hba hta htl);clear hta hba)
        go_roundw
        case rel=>exact⟨k+1,L,qa,by omega,by go_num,HLN.out,HSa.out⟩
        case measure=>simp[intOf];omega
       ·go_wp2_with fail
        (with_reducible refine cmo (ON.out _ HS.out.tape) ?_);rintro e wa ⟨rfl,hta,hba⟩;have HSa:=mh (HS.out.next hba hta htl);clear hta hba HS;have hjL:j<L.length:=by rw[HLN.out];omega
        have hkL:k<L.length:=by rw[HLN.out];omega
        obtain⟨g1,cc1,rj,e1, -,hgB,hgl,hCj,hnj,hej,hfr,hput⟩:=HSa.out.at_.at hjL;obtain⟨g2,cc2,rk,e2, -, -, -,hCk,hnk,hek, -, -⟩:=HSa.out.at_.at hkL;rw[HLN.out]at e1 e2;simp only[Value.slice.injEq,Option.some.injEq,Addr.mk.injEq,true_and,and_true]at e1 e2;obtain⟨rfl, -⟩:=e1;obtain⟨rfl, -⟩:=e2;have s1:=HSa.out.sm _ (List.getElem_mem hkL);have hkn0:0≤rk.num:=hnk.symm▸s1.n0;have hkn3:rk.num≤3:=hnk.symm▸s1.n3;have c8:=hCj.c8;have c0:=hCk.c0;have f8:=hfr (j*10+8);obtain⟨xk,exk⟩:∃x,rk.num=x:=⟨_,rfl⟩;obtain⟨xj,exj⟩:∃x,rj.ex=x:=⟨_,rfl⟩;rw[exk]at c0 hkn0 hkn3;rw[exj]at c8;have HP:=mh hput;clear hCj hCk hnj hnk hej hek hput exk exj s1
        go_wp2_with fail
        go_region
        have HS1:=mh (HSa.out.put hjL hgB htl _ (HP.out (bits BinOp.or IntKind.i64 xj (wrap64 (2 ^ xk.toNat)))));obtain⟨L1,eL1⟩:∃L1,L.set j { L[j] with ex:=bits BinOp.or IntKind.i64 xj (wrap64 (2 ^ xk.toNat)) }=L1:=⟨_,rfl⟩;obtain⟨W1,eW1⟩:∃W1,(wa.setCell ⟨g,j*10+8,none⟩ (I O (bits BinOp.or IntKind.i64 xj (wrap64 (2 ^ xk.toNat))))).drew=W1:=⟨_,rfl⟩;rw[eL1,eW1]at HS1;rw[eW1];have HL1:=mh (show L1.length=n from by rw[← eL1,List.length_set,HLN.out]);have hjL1:j<L1.length:=by rw[HL1.out];omega
        have hkL1:k<L1.length:=by rw[HL1.out];omega
        clear eL1 eW1 c8 c0 f8 hkn0 hkn3 HP hfr hgB hgl HSa HLN hjL hkL;obtain⟨g1,cc1,rj,e1, -,hgB,hgl,hCj,hnj,hej,hfr,hput⟩:=HS1.out.at_.at hkL1;obtain⟨g2,cc2,rk,e2, -, -, -,hCk,hnk,hek, -, -⟩:=HS1.out.at_.at hjL1;rw[HL1.out]at e1 e2;simp only[Value.slice.injEq,Option.some.injEq,Addr.mk.injEq,true_and,and_true]at e1 e2;obtain⟨rfl, -⟩:=e1;obtain⟨rfl, -⟩:=e2;have s1:=HS1.out.sm _ (List.getElem_mem hjL1);have hkn0:0≤rk.num:=hnk.symm▸s1.n0;have hkn3:rk.num≤3:=hnk.symm▸s1.n3;have c8:=hCj.c8;have c0:=hCk.c0;have f8:=hfr (k*10+8);obtain⟨xk', exk⟩:∃x,rk.num=x:=⟨_,rfl⟩;obtain⟨xj', exj⟩:∃x,rj.ex=x:=⟨_,rfl⟩;rw[exk]at c0 hkn0 hkn3;rw[exj]at c8;have HP:=mh hput;clear hCj hCk hnj hnk hej hek hput exk exj s1
        go_wp2_with fail
        go_region
        have HS2:=mh (HS1.out.put hkL1 hgB htl _ (HP.out (bits BinOp.or IntKind.i64 xj' (wrap64 (2 ^ xk'.toNat)))));have HL2:=mh (show(L1.set k { L1[k] with ex:=bits BinOp.or IntKind.i64 xj' (wrap64 (2 ^ xk'.toNat)) }).length=n from by rw[List.length_set,HL1.out])
        go_wp2
        go_roundw
        case rel=>exact⟨k+1,_,qa,by omega,by go_num,HL2.out,HS2.out⟩
        case measure=>simp[intOf];omega
      ·obtain rfl:k=j:=by omega
       go_wp2
       go_roundw
       case rel=>exact⟨k+1,L,q,by omega,by go_num,HLN.out,HS.out⟩
       case measure=>simp[intOf];omega
    ·obtain rfl:j=n:=by omega
     obtain⟨p2,c2,d2,ev,hc2, -,hss⟩:=HS.out.at_.ss hLn;simp only[Value.slice.injEq,true_and]at ev;obtain⟨rfl,rfl⟩:=ev;have CK:=mh (refcheck17_any d2 p L c _ hss (fun s hs=>by have:=(HS.out.sm s hs).nm;omega) (by rw[hLn];exact hc2) (fun s hs=>by have:=(HS.out.sm s hs).ct;omega));rw[hLn]at CK;obtain⟨⟨ci,er⟩,ec⟩:∃cv,chk17 L=cv:=⟨_,rfl⟩;have EC:=mh ec;rw[ec]at CK;unfold ChkG at CK;clear ec hLn hss hc2
     by_cases he:er=0
     ·subst he
      have HV:=mh ((chk_fine (L:=L) (by rw[EC.out])).1)
      go_wp2_with (go_at_call 10;(with_reducible refine cmo CK.out ?_);rintro e wf ⟨rfl,hbf⟩;have HF:=mh (HS.out.give hbf HV.out);clear hbf)
      go_ret
      exact HF.out
     ·have hne:(er != 0)=true:=by simpa using he
      clear he
      go_wp2_with (go_at_call 10;(with_reducible refine cmo CK.out ?_);rintro e wf ⟨rfl,hbf⟩;have HF:=mh (LawGive.nil (most:=most) (HS.out.tape.below hbf) (HS.out.but.nxt hbf));clear hbf)
      go_ret
      exact HF.out
  ·have hki:0<(kk:Int):=by omega
   have hni:3<(nn:Int):=by omega
   clear hk hn3;obtain⟨n,hn⟩:∃n,L.length=n:=⟨_,rfl⟩;obtain⟨p,c,d,rfl,hnc, -, -⟩:=HS.out.at_.ss hn;have hn3' : n≤3:=by have:=HS.out.len;omega
   have HS0:=mh (show LwS t l w wo (.slice p n c) L 0 most q from⟨HS.out.at_,by have:=HS.out.len;omega,HS.out.sm,HS.out.tape,HS.out.but⟩);have HN:=mh hn;clear HS hn
   go_wp2_with fail
   go_loopw [69] (fun i wr=>∃(j:Nat) (L:List Sch) (q:Nat),j≤n∧i=I O j∧L.length=n∧LwS t l w wr (.slice p n c) L 0 most q) (fun i _=>n - (intOf i).toNat)
   case atStart=>exact⟨0,L,q,Nat.zero_le _,rfl,HN.out,HS0.out⟩
   case round =>
    clear HS0 HN;obtain⟨wi,rfl⟩:∃wi:World,wi=wr:=⟨_,rfl⟩;obtain⟨j,L,q,hj,rfl,hLn,hS⟩:=hrel;have HS:=mh hS;have hj0:(0:Int)≤(j:Int):=inn _;clear hS
    by_cases hjn:j<n
    ·have hj1:(j:Int)<(n:Int):=by omega
     have hjc:(j:Int)≤(c:Int):=by omega
     obtain⟨g,c', -,ev, -, -, -, -, -, -, -, -⟩:=HS.out.at_.at (k:=j) (by omega);rw[hLn]at ev;simp only[Value.slice.injEq,true_and]at ev;obtain⟨rfl, -⟩:=ev;have HLN:=mh hLn;clear hLn
     go_wp2_with fail
     go_loopw [76] (fun i wr=>∃(k:Nat) (L:List Sch) (q:Nat),k≤j∧i=I O k∧L.length=n∧LwS t l w wr (.slice (some ⟨g,0,none⟩) n c) L 0 most q) (fun i _=>j - (intOf i).toNat)
     case atStart=>exact⟨0,L,q,Nat.zero_le _,rfl,HLN.out,HS.out⟩
     case round =>
      clear HS HLN;obtain⟨wz,rfl⟩:∃wz:World,wz=wr:=⟨_,rfl⟩;obtain⟨k,L,q,hk,rfl,hLn,hS⟩:=hrel;have HS:=mh hS;have HLN:=mh hLn;have hk0:(0:Int)≤(k:Int):=inn _;clear hS hLn
      by_cases hkj:k<j
      ·have hk1:(k:Int)<(j:Int):=by omega
       have hk2:(k:Int)<(n:Int):=by omega
       obtain⟨z,ez⟩:∃z,(gives l q 3==3 - 1)=z:=⟨_,rfl⟩;obtain⟨qa,eqa⟩:∃q', taken l q=q' := ⟨_,rfl⟩
       have ON:=mh (show ∀W,TapeAt W t l q→Calls Tryz.prog 26 #[.pointer (some ⟨t,0,none⟩),I O 3] W (fun e w' => e = .returned (.bool z)∧TapeAt w' t l qa∧But t W w') from fun W hW=>by
        have:=one_any t l q 3 W hW (by omega) (by omega);rw[ez,eqa]at this
        exact this)
       clear ez eqa
       cases z
       ·go_wp2_with (go_at_call 26;(with_reducible refine cmo (ON.out _ HS.out.tape) ?_);rintro e wa ⟨rfl,hta,hba⟩;have HSa:=mh (HS.out.next hba hta htl);clear hta hba)
        go_roundw
        case rel=>exact⟨k+1,L,qa,by omega,by go_num,HLN.out,HSa.out⟩
        case measure=>simp[intOf];omega
       ·go_wp2_with fail
        (with_reducible refine cmo (ON.out _ HS.out.tape) ?_);rintro e wa ⟨rfl,hta,hba⟩;have HSa:=mh (HS.out.next hba hta htl);clear hta hba HS;have hjL:j<L.length:=by rw[HLN.out];omega
        have hkL:k<L.length:=by rw[HLN.out];omega
        obtain⟨g1,cc1,rj,e1, -,hgB,hgl,hCj,hnj,hej,hfr,hput⟩:=HSa.out.at_.at hjL;obtain⟨g2,cc2,rk,e2, -, -, -,hCk,hnk,hek, -, -⟩:=HSa.out.at_.at hkL;rw[HLN.out]at e1 e2;simp only[Value.slice.injEq,Option.some.injEq,Addr.mk.injEq,true_and,and_true]at e1 e2;obtain⟨rfl, -⟩:=e1;obtain⟨rfl, -⟩:=e2;have s1:=HSa.out.sm _ (List.getElem_mem hkL);have hkn0:0≤rk.num:=hnk.symm▸s1.n0;have hkn3:rk.num≤3:=hnk.symm▸s1.n3;have c8:=hCj.c8;have c0:=hCk.c0;have f8:=hfr (j*10+8);obtain⟨xk,exk⟩:∃x,rk.num=x:=⟨_,rfl⟩;obtain⟨xj,exj⟩:∃x,rj.ex=x:=⟨_,rfl⟩;rw[exk]at c0 hkn0 hkn3;rw[exj]at c8;have HP:=mh hput;clear hCj hCk hnj hnk hej hek hput exk exj s1
        go_wp2_with fail
        go_region
        have HS1:=mh (HSa.out.put hjL hgB htl _ (HP.out (bits BinOp.or IntKind.i64 xj (wrap64 (2 ^ xk.toNat)))));obtain⟨L1,eL1⟩:∃L1,L.set j { L[j] with ex:=bits BinOp.or IntKind.i64 xj (wrap64 (2 ^ xk.toNat)) }=L1:=⟨_,rfl⟩;obtain⟨W1,eW1⟩:∃W1,(wa.setCell ⟨g,j*10+8,none⟩ (I O (bits BinOp.or IntKind.i64 xj (wrap64 (2 ^ xk.toNat))))).drew=W1:=⟨_,rfl⟩;rw[eL1,eW1]at HS1;rw[eW1];have HL1:=mh (show L1.length=n from by rw[← eL1,List.length_set,HLN.out]);have hjL1:j<L1.length:=by rw[HL1.out];omega
        have hkL1:k<L1.length:=by rw[HL1.out];omega
        clear eL1 eW1 c8 c0 f8 hkn0 hkn3 HP hfr hgB hgl HSa HLN hjL hkL;obtain⟨g1,cc1,rj,e1, -,hgB,hgl,hCj,hnj,hej,hfr,hput⟩:=HS1.out.at_.at hkL1;obtain⟨g2,cc2,rk,e2, -, -, -,hCk,hnk,hek, -, -⟩:=HS1.out.at_.at hjL1;rw[HL1.out]at e1 e2;simp only[Value.slice.injEq,Option.some.injEq,Addr.mk.injEq,true_and,and_true]at e1 e2;obtain⟨rfl, -⟩:=e1;obtain⟨rfl, -⟩:=e2;have s1:=HS1.out.sm _ (List.getElem_mem hjL1);have hkn0:0≤rk.num:=hnk.symm▸s1.n0;have hkn3:rk.num≤3:=hnk.symm▸s1.n3;have c8:=hCj.c8;have c0:=hCk.c0;have f8:=hfr (k*10+8);obtain⟨xk', exk⟩:∃x,rk.num=x:=⟨_,rfl⟩;obtain⟨xj', exj⟩:∃x,rj.ex=x:=⟨_,rfl⟩;rw[exk]at c0 hkn0 hkn3;rw[exj]at c8;have HP:=mh hput;clear hCj hCk hnj hnk hej hek hput exk exj s1
        go_wp2_with fail
        go_region
        have HS2:=mh (HS1.out.put hkL1 hgB htl _ (HP.out (bits BinOp.or IntKind.i64 xj' (wrap64 (2 ^ xk'.toNat)))));have HL2:=mh (show(L1.set k { L1[k] with ex:=bits BinOp.or IntKind.i64 xj' (wrap64 (2 ^ xk'.toNat)) }).length=n from by rw[List.length_set,HL1.out])
        go_wp2
        go_roundw
        case rel=>exact⟨k+1,_,qa,by omega,by go_num,HL2.out,HS2.out⟩
        case measure=>simp[intOf];omega
      ·obtain rfl:k=j:=by omega
       go_wp2
       go_roundw
       case rel=>exact⟨k+1,L,q,by omega,by go_num,HLN.out,HS.out⟩
       case measure=>simp[intOf];omega
    ·obtain rfl:j=n:=by omega
     obtain⟨p2,c2,d2,ev,hc2, -,hss⟩:=HS.out.at_.ss hLn;simp only[Value.slice.injEq,true_and]at ev;obtain⟨rfl,rfl⟩:=ev;have CK:=mh (refcheck17_any d2 p L c _ hss (fun s hs=>by have:=(HS.out.sm s hs).nm;omega) (by rw[hLn];exact hc2) (fun s hs=>by have:=(HS.out.sm s hs).ct;omega));rw[hLn]at CK;obtain⟨⟨ci,er⟩,ec⟩:∃cv,chk17 L=cv:=⟨_,rfl⟩;have EC:=mh ec;rw[ec]at CK;unfold ChkG at CK;clear ec hLn hss hc2
     by_cases he:er=0
     ·subst he
      have HV:=mh ((chk_fine (L:=L) (by rw[EC.out])).1)
      go_wp2_with (go_at_call 10;(with_reducible refine cmo CK.out ?_);rintro e wf ⟨rfl,hbf⟩;have HF:=mh (HS.out.give hbf HV.out);clear hbf)
      go_ret
      exact HF.out
     ·have hne:(er != 0)=true:=by simpa using he
      clear he
      go_wp2_with (go_at_call 10;(with_reducible refine cmo CK.out ?_);rintro e wf ⟨rfl,hbf⟩;have HF:=mh (LawGive.nil (most:=most) (HS.out.tape.below hbf) (HS.out.but.nxt hbf));clear hbf)
      go_ret
      exact HF.out
  ·have hki:0<(kk:Int):=by omega
   have hni:(nn:Int)≤3:=by omega
   obtain⟨d0,R,hLR⟩:=HS.out.at_;have hkk3:kk≤3:=by have:=HS.out.len;omega
   have HLR:=mh hLR;obtain⟨X,eX⟩:∃X:ByteArray,(⟨(Lib.itoa (nn:Int)).toArray⟩:ByteArray)=X:=⟨_,rfl⟩;have hX:X.size≤20:=by
    rw[← eX]
    show(Lib.itoa (nn:Int)).toArray.size≤20
    have:=itoa_le (n:=(nn:Int)) hnn0 (k:=9) (by omega) (by omega)
    simp
    omega
   have DC:=mh (refdec_any (nn:Int) wo (by omega) (by omega));unfold DecGive at DC;rw[eX]at DC;have TM:=mh (show ∀W,TapeAt W t l q→Calls Tryz.prog 25 #[.pointer (some ⟨t,0,none⟩),I O 2] W (TapeTerm t l 2 W) from fun W hW=>tapeTerm_any t l 2 (by omega) q W hW);clear eX hLR hk hn3
   go_wp2_with (go_at_call 24;(with_reducible refine cmo DC.out ?_);rintro e w1 ⟨rfl,hb1⟩;have HB1:=mh hb1;clear hb1)
   (with_reducible refine cmo (TM.out _ (HS.out.tape.below HB1.out)) ?_);rintro e w2 ⟨⟨o,tn,tm,tp,tl,tc⟩,tmx,d1,q2,rfl,hv2,hct,ht2,hb2⟩;have HV2:=mh hv2;have HCT:=mh hct;have HB2:=mh ((But.of_below (t:=t) HB1.out).trans hb2);have HT2:=mh ht2;simp only;clear hv2 hct hb2 ht2
   go_wp2_with fail
   (with_reducible refine cmo (next_any t l q2 4 _ HT2.out (by decide)) ?_);rintro e w3 ⟨rfl,ht3,hb3⟩;obtain⟨least,el⟩:∃x,gives l q2 4=x:=⟨_,rfl⟩;obtain⟨q3,eq3⟩:∃x,taken l q2=x:=⟨_,rfl⟩;rw[el];rw[eq3]at ht3;have HT3:=mh ht3;have HB3:=mh (HB2.out.trans hb3);have HV3:=mh (show TV (NewQ wo.heap.size) w3 d1 ⟨o,tn,tm,tp,tl,tc⟩ tmx from HV2.out.change hb3.size fun b hq hl=>⟨hb3.block b hl (by have:=HB1.out.size;have:=htl;have:=HS.out.but.size;unfold NewQ at hq;omega),by have:=HB1.out.size;unfold NewQ at *;omega⟩);clear el eq3 ht3 hb3
   go_wp2_with fail
   (with_reducible refine cmo (one_any t l q3 2 _ HT3.out (by decide) (by decide)) ?_);rintro e w4 ⟨rfl,ht4,hb4⟩;obtain⟨needs,ee⟩:∃x,(gives l q3 2==2 - 1)=x:=⟨_,rfl⟩;obtain⟨q4,eq4⟩:∃x,taken l q3=x:=⟨_,rfl⟩;rw[ee];rw[eq4]at ht4;have HT4:=mh ht4;have HB4:=mh (HB3.out.trans hb4);have HV4:=mh (show TV (NewQ wo.heap.size) w4 d1 ⟨o,tn,tm,tp,tl,tc⟩ tmx from HV3.out.change hb4.size fun b hq hl=>⟨hb4.block b hl (by have:=htl;have:=HS.out.but.size;unfold NewQ at hq;omega),hq⟩);clear ee eq4 ht4 hb4
   go_wp2_with fail
   obtain⟨nm,enm⟩:∃nm,(⟨#[115]⟩:ByteArray)++X=nm:=⟨_,rfl⟩;have hnm:nm.size≤40:=by rw[← enm,ByteArray.size_append];show 1+X.size≤40;omega
   rw[enm];clear enm hX;obtain⟨W5,eW5⟩:∃W:World,w4.alloc (.cells #[I O (nn:Int),.string nm,I O o,I O tn,I O tm,.slice tp tl tc,.slice none 0 0,I O least,I O 0,.bool needs] 31)=W:=⟨_,rfl⟩
   have M5:=mh (show MkS t l w4 W5 w4.heap.size (nn:Int) nm ⟨o,tn,tm,tp,tl,tc⟩ least needs none 0 0 [] q4 from by
    rw[← eW5];have hA:=balloc mle (brf w4.heap.size w4) (.cells #[I O (nn:Int),.string nm,I O o,I O tn,I O tm,.slice tp tl tc,.slice none 0 0,I O least,I O 0,.bool needs] 31)
    exact⟨SCells.box w4 ⟨(nn:Int),nm,⟨o,tn,tm,tp,tl,tc⟩,none,0,0,least,0,needs⟩ 31,fun i=>by simp only[World.frozen?,World.alloc_heap_new];simp,OwnR.nil _ _ _,rfl,HT4.out.below hA,But.of_below hA,by simp⟩)
   have hwg:w.heap.size≤w4.heap.size:=Nat.le_trans HS.out.but.size HB4.out.size;have hog:wo.heap.size≤w4.heap.size:=HB4.out.size;obtain⟨g,eg⟩:∃g,w4.heap.size=g:=⟨_,rfl⟩;have EG:=mh eg;rw[eW5];rw[eg]at M5 hwg hog ⊢;have htg:t<g:=by omega
   clear eW5 eg;(with_reducible refine cmo (range_any t l q4 1 3 _ M5.out.tape (by decide) (by decide) (by decide)) ?_);rintro e w5 ⟨rfl,ht5,hb5⟩;obtain⟨nb,enb⟩:∃x:Int,1+gives l q4 (3 - 1+1)=x:=⟨_,rfl⟩;have hgb:=gives_bd l q4 (n:=3 - 1+1) (by decide);obtain⟨NB,rfl⟩:∃N:Nat,nb=(N:Int):=Int.eq_ofNat_of_zero_le (by omega);have hNB:NB≤3:=by omega
   rw[enb];have M50:=mh (M5.out.next hb5 ht5 htg);clear enb hgb ht5 hb5
   go_wp2_with fail
   go_loopw [9,10] (fun u nv wr=>∃(n2:Nat) (up:Int) (bp:Option Addr) (bn bc:Nat) (br:List Brk) (q:Nat),nv=I O n2∧u=I O up∧n2+br.length≤3∧0≤up∧up+40*n2≤160∧MkS t l w4 wr g (nn:Int) nm ⟨o,tn,tm,tp,tl,tc⟩ least needs bp bn bc br q) (fun _ n _=>(intOf n).toNat)
   case atStart=>exact⟨NB,0,none,0,0, [],_,rfl,rfl,by simpa using hNB,by omega,by omega,M50.out⟩
   case round =>
    clear M50 M5;obtain⟨wi,rfl⟩:∃wi:World,wi=wr:=⟨_,rfl⟩;obtain⟨n2,up,bp,bn,bc,br,q5,rfl,rfl,hn2,hu0,hu1,hM⟩:=hrel;have HMK:=mh hM;have hn20:(0:Int)≤(n2:Int):=inn _;clear hM
    by_cases hz:n2=0
    ·subst hz
     rw[show((0:Nat):Int)=0 from rfl];obtain⟨c0,c1,c2,c3,c4,c5,c6,c7,c8,c9⟩:=HMK.out.cells;simp only[Nat.zero_add]at c1 c2 c3 c4 c5 c6 c7 c8 c9;have HBI:=mh (HB4.out.trans HMK.out.but);have HOW:=mh (HLR.out.own.but HBI.out htl);have HSV:=mh (HMK.out.sv HV4.out hog (by have:=htl;have:=HS.out.but.size;omega));have hwi:w.heap.size≤wi.heap.size:=Nat.le_trans HS.out.but.size HBI.out.size;have HRL:=mh (show R.length≤3 by have:=HLR.out.hl;have:=HS.out.len;omega)
     go_wp2_with (first|(at_builtin;(refine OwnR.append el_sch rfl (.tmp 59) (.tmp 61) rfl w.heap.size _ R ⟨(nn:Int),nm,⟨o,tn,tm,tp,tl,tc⟩,bp,bn,bc,least,0,needs⟩ #[I O (nn:Int),.string nm,I O o,I O tn,I O tm,.slice tp tl tc,.slice bp bn bc,I O least,I O 0,.bool needs] rfl HOW.out rfl (by simp[Act.eval]) hwi (by have:=HRL.out;omega) (by decide) ?_);intro v6 w6 hO6 hap6)|fail)
     obtain⟨mk,rfl⟩:∃m,kk=m+1:=⟨kk - 1,by omega⟩;have HLW:=mh (HLR.out.push HS.out.but.size HBI.out htl (Nat.le_succ _) HSV.out hO6 hap6);have HT6:=mh (HMK.out.tape.belowB hap6.below htl);have HB6:=mh ((HS.out.but.trans HBI.out).stpB hap6.below mle);clear hO6 hap6;(with_reducible refine cmo (range_any t l q5 1 2 _ HT6.out (by decide) (by decide) (by decide)) ?_);rintro e w7 ⟨rfl,ht7,hb7⟩;obtain⟨nb,enb⟩:∃x:Int,1+gives l q5 (2 - 1+1)=x:=⟨_,rfl⟩;have hgb:=gives_bd l q5 (n:=2 - 1+1) (by decide);obtain⟨N2,rfl⟩:∃N:Nat,nb=(N:Int):=Int.eq_ofNat_of_zero_le (by omega);have hN2:N2≤2:=by omega
     have hN20:(0:Int)≤(N2:Int):=inn _;rw[enb]
     have HF:=mh (show LwS t l w w7 v6 (L ++ [⟨(nn:Int),nm,tmx,br,least,0,needs⟩]) mk most _ from⟨HLW.out.but hb7 htl,by have:=HS.out.len;rw[lap];simp;omega,fun s hs=>by
      rcases List.mem_append.1 hs with hs|hs
      ·exact HS.out.sm s hs
      ·obtain rfl:=List.mem_singleton.1 hs
       exact⟨hnm,HCT.out,hnn0,hni⟩,ht7,HB6.out.trans hb7⟩)
     clear enb hgb ht7 hb7
     go_wp2_with fail
     go_roundw
     case rel=>exact⟨mk,nn+N2,_,_,by go_num,by go_num,by omega,HF.out⟩
     case measure=>simp[intOf]
    ·obtain⟨m2,rfl⟩:∃m,n2=m+1:=⟨n2 - 1,by omega⟩
     have hn2p:0<((m2+1:Nat):Int):=by omega
     go_wp2_with fail
     (with_reducible refine cmo (range_any t l q5 1 40 _ HMK.out.tape (by decide) (by decide) (by decide)) ?_);rintro e w7 ⟨rfl,ht7,hb7⟩;obtain⟨u1,eu1⟩:∃x:Int,1+gives l q5 (40 - 1+1)=x:=⟨_,rfl⟩;have hgb:=gives_bd l q5 (n:=40 - 1+1) (by decide);have hu10:0≤u1:=by omega
     have hu11:u1≤40:=by omega
     rw[eu1];obtain⟨q6,eq6⟩:∃x,taken l q5=x:=⟨_,rfl⟩;rw[eq6]at ht7;have MX:=mh (HMK.out.next hb7 ht7 htg);clear eu1 eq6 hgb ht7 hb7 HMK;obtain⟨c0,c1,c2,c3,c4,c5,c6,c7,c8,c9⟩:=MX.out.cells;simp only[Nat.zero_add]at c6;clear c0 c1 c2 c3 c4 c5 c7 c8 c9;have f6:=MX.out.fr 6;obtain⟨up2,eup⟩:∃x,up+u1=x:=⟨_,rfl⟩;have hup0:0≤up2:=by omega
     have hup1:up2+40*(m2:Int)≤160:=by omega
     have hwr:IntKind.i64.wrap (up+u1)=up2:=by rw[eup,IntKind.wrap_i64];omega
     have ENX:=mh (show ∀args W,(callFunc 23 args).run Tryz.prog W = .ok (.enter 23 args) W from enters_of Tryz.func23 (by kernel_rfl) rfl);obtain⟨rt,ert⟩:∃x,gives l q6 3000=x:=⟨_,rfl⟩;obtain⟨q7,eq7⟩:∃x,taken l q6=x:=⟨_,rfl⟩;have NXC:=mh (fun (W:World) (hW:TapeAt W t l q6)=>eq7▸ert▸next_any t l q6 3000 W hW (by omega));have HTd:=mh (MX.out.tape.below (brf _ _).drew);have MXd:=mh (MX.out.next (t:=t) ((But.refl t w7).drew) HTd.out htg);clear ert eq7
     go_wp2_with fail
     go_region_law (first
      | (refine stepCall (by rfl) 23 #[.tmp 53,.const (I O 3000)] #[32,3] #[.pointer (some ⟨t,0,none⟩),I O 3000] (by rfl) ENX.out (by first|(simp[Act.eval];done)|(simp[Act.eval,Act.put];done)) (NXC.out _ HTd.out) ?_;rintro e w8 ⟨rfl,ht8,hb8⟩;refine⟨_,rfl,?_⟩;have M8:=mh (MXd.out.next hb8 ht8 htg);have HA8:=mh (balloc mle (brf w8.heap.size w8) (.cells #[I O up2,I O rt] 54));have HO8:=mh (M8.out.own.below HA8.out);have SRC:=mh (one_brk w8 ⟨up2,rt⟩);have k6:=M8.out.cells.c6;simp only[Nat.zero_add]at k6;have h86:=M8.out.fr 6;have kA6:=(HA8.out.cell (p:=⟨g,6,none⟩) M8.out.lt).trans k6;clear ht8 hb8)
      | (refine OwnR.stepAp el_brk (by rfl) (.tmp 51) (.tmp 56) (by rfl) (g+1) (.slice bp bn bc) br [⟨up2,rt⟩] (some ⟨w8.heap.size,0,none⟩) 1 1 rfl HO8.out SRC.out (fun h=>by cases h) (by rfl) (by rfl) (by have:=M8.out.lt;simp;omega) (by omega) (by decide) ?_;intro v7 w9 hO7 hap7;obtain⟨p7,cc7,rfl, -⟩:=hO7.cut (show(br ++ [(⟨up2,rt⟩:Brk)]).length=br.length+1 by rw[lap];rfl);have k9:=(hap7.below.cell (p:=⟨g,6,none⟩) (Nat.lt_succ_self g)).trans ((HA8.out.cell (p:=⟨g,6,none⟩) M8.out.lt).trans k6);have h9:=(hap7.below.frozen (p:=⟨g,6,none⟩) (Nat.lt_succ_self g)).trans ((HA8.out.frozen (p:=⟨g,6,none⟩) M8.out.lt).trans h86);have M9:=mh (M8.out.snoc HA8.out hO7 rfl hap7 htg (Nat.le_of_eq EG.out)))
      | fail)
     all_goals
      clear k9 h9 k6 h86 kA6
      go_wp2
      go_roundw
      case rel=>exact⟨m2,up2,p7,br.length+1,cc7,br ++ [⟨up2,rt⟩],q7,by go_num,rfl,by rw[lap];simp;omega,hup0,hup1,M9.out⟩
      case measure=>simp[intOf]
open Go
section
variable {P:Program} {ops:Array Oper} {Q:Exit→Act→World→Prop} {md:Region.Mode} {S:World→Prop} {k0:Nat}
def waitsOn (md:Region.Mode) (ops:Array Oper) (j i:Nat):Bool :=
 match ops[j]? with
 | some o=>o.after.any fun e=>Region.binds md e&&e.on==i
 | none=>false
theorem waitsOn_ready {i j:Nat}{listed:Array Bool}(h:waitsOn md ops j i=true)(hj:j∈Region.ready md ops listed):listed.getD i false=true:=by
 obtain⟨_,o,ho,hall⟩:=mem_ready.1 hj;unfold waitsOn at h;rw[ho]at h;simp only[Array.any_eq_true', Bool.and_eq_true,beq_iff_eq]at h;obtain⟨e,he,hb,rfl⟩:=h;exact hall e he hb
theorem unlisted {i:Nat}{listed:Array Bool}(h:listed.getD i true=false):¬listed.getD i false=true:=by
 intro h2
 rcases Nat.lt_or_ge i listed.size with h' | h'
 ·simp[h']at h h2;rw[h]at h2;cases h2
 ·simp[Array.getElem?_eq_none h']at h2
def wpAnyK (P:Program) (md:Region.Mode) (ops:Array Oper) (Q:Exit→Act→World→Prop) (S:World→Prop) (k0:Nat):Nat→Array Bool→Act→World→Prop
 | 0,listed,a,w=>Region.ready md ops listed = []∧Q .normal a w
 | fuel+1,listed,a,w=>(Region.ready md ops listed = []→Q .normal a w)∧∀i∈Region.ready md ops listed,
   (i=k0→wpOp P ops Q i (fun a' w' => wpAny P md ops Q fuel (listed.setIfInBounds i true) a' w') a w) ∧
   (i≠k0→wpOp P ops Q i (fun a' w' => S w' ∧ wpAnyK P md ops Q S k0 fuel (listed.setIfInBounds i true) a' w') a w)
theorem wpAny_of_K:∀(fuel:Nat) (listed:Array Bool)(a:Act)(w:World),wpAnyK P md ops Q S k0 fuel listed a w→wpAny P md ops Q fuel listed a w
 | 0,_,_,_,h=>h
 | fuel+1,_,_,_,h=>⟨h.1,fun i hi=>by
   by_cases e:i=k0
   ·exact(h.2 i hi).1 e
   ·exact wpOp_mono (fun a' w' h' => wpAny_of_K fuel _ a' w' h'.2) ((h.2 i hi).2 e)⟩
theorem wpAnyK_first {i m:Nat}{oi:Oper}{v:Value}(hi:ops[i]?=some oi)(hsel:∀(j:Nat) (o:Oper) cs b,ops[j]?=some o→o.op ≠ .select cs b)
  (hQ:∀c a w,Q (.panic c) (a.put oi.dst v) w→Q (.panic c) a w) (hk:i≠k0) (hm:waitsOn md ops k0 m=true) :
  ∀(fuel:Nat) (listed:Array Bool) (a:Act) (w:World),
    (∀j oj,ops[j]?=some oj→j≠i→listed.getD j true=false→(∀e∈oj.after,Region.binds md e=true→e.on≠i)→oi.apart ops oj=true) →
    (m=i∨(listed.getD m true=false∧waitsOn md ops m i=true)) →
    i∈Region.ready md ops listed→YieldsIf P ops S oi v a→S w →
    wpAnyK P md ops Q S k0 fuel (listed.setIfInBounds i true) (a.put oi.dst v) w→wpAnyK P md ops Q S k0 (fuel+1) listed a w:=by
 intro fuel
 induction fuel with
 | zero =>
   intro listed a w _ _ hr hy hS H;refine⟨fun h=>(by rw[h]at hr;cases hr),fun j hj=>?_⟩
   by_cases hji:j=i
   ·subst hji;exact⟨fun e=>absurd e hk,fun _=>hy.wpOp hi hS ⟨hS,H⟩⟩
   ·have:=ready_mono hj hji
    rw[H.1]at this
    cases this
 | succ fuel ih =>
   intro listed a w hfree hmi hr hy hS H;refine⟨fun h=>(by rw[h]at hr;cases hr),fun j hj=>?_⟩
   by_cases hji:j=i
   ·subst hji;exact⟨fun e=>absurd e hk,fun _=>hy.wpOp hi hS ⟨hS,H⟩⟩
   have hiun:=unlisted (mem_ready.1 hr).1;have hjk:j≠k0:=by
    rintro rfl;have h1:=waitsOn_ready hm hj
    rcases hmi with rfl|⟨h2,_⟩
    ·exact hiun h1
    ·exact unlisted h2 h1
   refine⟨fun e=>absurd e hjk,fun _=>?_⟩
   have h1:=(H.2 j (ready_mono hj hji)).2 hjk;obtain⟨hjun,oj,hoj,hall⟩:=mem_ready.1 hj;have hnot:∀e∈oj.after,Region.binds md e=true→e.on≠i:=fun e he hb heq=>hiun (heq▸hall e he hb)
   have h2:=wpOp_putIf hoj (hfree j oj hoj hji hjun hnot) (fun cs b=>hsel i oi cs b hi) (fun cs b=>hsel j oj cs b hoj) hQ hy h1;have hfree' : ∀k ok,ops[k]?=some ok→k≠i→(listed.setIfInBounds j true).getD k true=false →
     (∀e∈ok.after,Region.binds md e=true→e.on≠i)→oi.apart ops ok=true:=fun k ok hk hki hun hno=>by
    refine hfree k ok hk hki ?_ hno
    by_cases hjk:j=k
    ·subst hjk;exact hjun
    ·rw[getD_set_ne true hjk]at hun;exact hun
   have hmi' : m=i∨((listed.setIfInBounds j true).getD m true=false∧waitsOn md ops m i=true):=by
    rcases hmi with h|⟨h3,h4⟩
    ·exact .inl h
    ·refine .inr ⟨?_,h4⟩
     have hjm:j≠m:=by rintro rfl;exact hiun (waitsOn_ready h4 hj)
     rw[getD_set_ne true hjm];exact h3
   refine wpOp_mono (fun a' w' h3=>⟨h3.2.1,ih (listed.setIfInBounds j true) a' w' hfree' hmi' (ready_mono hr (Ne.symm hji)) h3.1 h3.2.1 ?_⟩) h2
   rw[Array.setIfInBounds_comm _ _ hji];exact h3.2.2
theorem wpAnyK_take {i:Nat}(m:Nat){oi:Oper}{v:Value}{fuel:Nat}{listed:Array Bool}{a:Act}{w:World}(hi:ops[i]?=some oi)
  (hs:Region.noSelect ops=true) (hf:Region.free md ops listed i=true) (hr:(Region.ready md ops listed).contains i=true)
  (hk:(i != k0&&waitsOn md ops k0 m&&(m==i||(!listed.getD m true&&waitsOn md ops m i)))=true)
  (hQ:∀c a w,Q (.panic c) (a.put oi.dst v) w→Q (.panic c) a w) (hy:YieldsIf P ops S oi v a) (hS:S w)
  (h:wpAnyK P md ops Q S k0 fuel (listed.setIfInBounds i true) (a.put oi.dst v) w):wpAnyK P md ops Q S k0 (fuel+1) listed a w:=by
 simp only[Bool.and_eq_true,bne_iff_ne,Bool.or_eq_true,beq_iff_eq,Bool.not_eq_true']at hk;exact wpAnyK_first hi (Region.noSelect_spec hs) hQ hk.1.1 hk.1.2 fuel listed a w (Region.free_spec hi hf) hk.2 (by simpa using hr) hy hS h
theorem wpAnyK_one {i:Nat}{o:Oper}{fuel:Nat}{listed:Array Bool}{a:Act}{w:World}(hr:Region.ready md ops listed = [i])(hk:(i==k0)=false)(ho:ops[i]?=some o)
  (h:∀K' : Act→World→Prop,Shut (∀a w,S w→wpAnyK P md ops Q S k0 fuel (listed.setIfInBounds i true) a w→K' a w)→if Region.wanted o (yielded ops a.tmps)=true then Oper.wp P o a w K' Q else K' (a.put o.dst undef) w) :
  wpAnyK P md ops Q S k0 (fuel+1) listed a w :=
 ⟨fun h0=>(by rw[hr]at h0;cases h0),fun j hj=>by
  rw[hr]at hj;obtain rfl:=List.mem_singleton.1 hj
  exact⟨fun e=>(by rw[e]at hk;simp at hk),fun _=>wpOp_step ho fun K' hK=>h K' fun a w hS hW=>hK a w ⟨hS,hW⟩⟩⟩
theorem wpAnyK_last {o:Oper}{fuel:Nat}{listed:Array Bool}{a:Act}{w:World}(hr:Region.ready md ops listed = [k0])(ho:ops[k0]?=some o)
  (h:∀K' : Act→World→Prop,Shut (∀a w,wpAnyH P md ops Q (fun _=>True) fuel (listed.setIfInBounds k0 true) a w→K' a w)→if Region.wanted o (yielded ops a.tmps)=true then Oper.wp P o a w K' Q else K' (a.put o.dst undef) w) :
  wpAnyK P md ops Q S k0 (fuel+1) listed a w :=
 ⟨fun h0=>(by rw[hr]at h0;cases h0),fun j hj=>by
  rw[hr]at hj;obtain rfl:=List.mem_singleton.1 hj
  exact⟨fun _=>wpOp_step ho fun K' hK=>h K' fun a w hW=>hK a w (wpAny_of_held _ _ _ _ hW),fun e=>absurd rfl e⟩⟩
theorem wp_region_K {id:Nat}{a:Act}{w:World}(S:World→Prop)(k0:Nat)(hm:P.follows .mixedOrders=true)(hS:S w.drew)
  (h:S w.drew→wpAnyK P .any ops Q S k0 ops.size (Array.replicate ops.size false) a w.drew):(Code.region id ops true).wp P Q a w :=
 wp_region_any hm (wpAny_of_K _ _ _ _ (h hS))
end
section
variable {P:Program} {ops:Array Oper} {Q:Exit→Act→World→Prop} {md:Region.Mode} {S:World→Prop} {k0:Nat}
end
end Go.Proofs.YtbcmabolkkfgfaaGreatDoor
namespace Go.Proofs.YtbcmabolkkfgfaaGreatDoor
open Go.RowKit
structure TpB (w wr:World) (t:Nat) (l:List Int) (q:Nat):Prop where
 tape:TapeAt wr t l q
 but:But t w wr
 lt:t<w.heap.size
section
variable {w wr w' : World} {t g i q q' : Nat} {l:List Int} {xs:Array Value} {T:TypeId}
theorem TpB.init (h:TapeAt w t l q):TpB w w t l q:=⟨h,But.refl _ _,h.lt⟩
theorem TpB.next (h:TpB w wr t l q)(ht:TapeAt w' t l q')(hb:But t wr w'):TpB w w' t l q' := ⟨ht,h.but.trans hb,h.lt⟩
theorem TpB.below (h:TpB w wr t l q)(hb:Below wr.heap.size wr w'):TpB w w' t l q:=⟨h.tape.below hb,h.but.nxt hb,h.lt⟩
theorem TpB.belowB (h:TpB w wr t l q)(hb:Below w.heap.size wr w'):TpB w w' t l q:=⟨h.tape.belowB hb h.lt,h.but.stp hb,h.lt⟩
theorem TpB.alloc (h:TpB w wr t l q)(o:Obj):TpB w (wr.alloc o) t l q:=h.below ((brf _ _).alloc mle _)
theorem TpB.set (h:TpB w wr t l q)(hg:w.heap.size≤g)(u:Value):TpB w (wr.setCell ⟨g,i,none⟩ u) t l q:=h.belowB ((brf _ _).setCell hg u)
end
end Go.Proofs.YtbcmabolkkfgfaaGreatDoor
namespace Go.Proofs.YtbcmabolkkfgfaaGreatDoor
open Go.RowKit
theorem tkA1 {α:Type _}{a:List α}{i:Nat}{b:α}:a.toArray.setIfInBounds i b=(a.set i b).toArray:=List.setIfInBounds_toArray ..
section
variable {P:Program} {md:Region.Mode} {ops:Array Oper} {Q:Exit→Act→World→Prop} {S:World→Prop} {k0 fuel:Nat} {listed:Array Bool} {a:Act} {w:World} {v:Value} {op:Op} {ty:TypeId} {ps:String} {af:Array Edge} {gd:Option (Nat × Bool)}
theorem tkK (i s:Nat){b:Act}{l:Array Bool}(hS:S w)(h:wpAnyK P md ops Q S k0 fuel l b w)(m:Nat:=i)
  (hi:ops[i]?=some ⟨some s,op,ty,ps,af,gd⟩:=by rfl) (hs:Region.noSelect ops=true:=by kernel_rfl) (hf:Region.free md ops listed i=true:=by kernel_rfl) (hr:(Region.ready md ops listed).contains i=true:=by kernel_rfl)
  (hk:(i != k0&&waitsOn md ops k0 m&&(m==i||(!listed.getD m true&&waitsOn md ops m i)))=true:=by kernel_rfl)
  (hQ:∀c a w,Q (.panic c) (a.put (some s) v) w→Q (.panic c) a w:=by exact fun _ _ _ h=>h)
  (hw:Region.wanted ⟨some s,op,ty,ps,af,gd⟩ (yielded ops a.tmps)=true:=by kernel_rfl)
  (hy:∀w,S w→(execOp a.eval ⟨some s,op,ty,ps,af,gd⟩).run P w = .ok (.value v) w:=by intro W0 hSw;(try dsimp only at hSw);go_simp;try with_reducible rfl)
  (hb:a.put (some s) v=b:=by (try simp only[Act.put,tkA1,tkA2,tkA3]);try exact rfl)
  (hl:listed.setIfInBounds i true=l:=by (try simp only[tkA1,tkA2,tkA3]);try exact rfl):wpAnyK P md ops Q S k0 (fuel+1) listed a w:=by
 subst hb;subst hl;exact wpAnyK_take m hi hs hf hr hk hQ (Or.inl ⟨hw,hy⟩) hS h
end
section
variable {W:World} {g:Nat} {z0 z1 z2 z3 z4:Value} {T:TypeId}
end
end Go.Proofs.YtbcmabolkkfgfaaGreatDoor
namespace Go.Proofs.YtbcmabolkkfgfaaGreatDoor
theorem tkG {P:Program}{md:Region.Mode}{ops:Array Oper}{Q:Exit→Act→World→Prop}{S:World→Prop}{k0 fuel:Nat}{listed:Array Bool}{a:Act}{w:World}{v:Value}{op:Op}{ty:TypeId}{ps:String}{af:Array Edge}{gd:Option (Nat × Bool)}(i s:Nat){b:Act}{l:Array Bool}(h:wpAnyK P md ops Q S k0 fuel l b w)(m:Nat:=i)
 (hi:ops[i]?=some ⟨some s,op,ty,ps,af,gd⟩:=by rfl) (hs:Region.noSelect ops=true:=by kernel_rfl) (hf:Region.free md ops listed i=true:=by kernel_rfl) (hr:(Region.ready md ops listed).contains i=true:=by kernel_rfl)
 (hk:(i != k0&&waitsOn md ops k0 m&&(m==i||(!listed.getD m true&&waitsOn md ops m i)))=true:=by kernel_rfl)
 (hQ:∀c a w,Q (.panic c) (a.put (some s) v) w→Q (.panic c) a w:=by exact fun _ _ _ h=>h)
 (hw:Region.wanted ⟨some s,op,ty,ps,af,gd⟩ (yielded ops a.tmps)=true:=by kernel_rfl)
 (hy:∀w,S w→(execOp a.eval ⟨some s,op,ty,ps,af,gd⟩).run P w = .ok (.value v) w:=by intro W0 hSw;(try dsimp only at hSw);go_simp;try with_reducible rfl)
 (hS:S w:=by assumption)
 (hb:a.put (some s) v=b:=by (try simp only[Act.put,mnA,mnB,mnC]);try exact rfl)
 (hl:listed.setIfInBounds i true=l:=by (try simp only[mnA,mnB,mnC]);try exact rfl):wpAnyK P md ops Q S k0 (fuel+1) listed a w:=by
 subst hb;subst hl;exact wpAnyK_take m hi hs hf hr hk hQ (Or.inl ⟨hw,hy⟩) hS h
end Go.Proofs.YtbcmabolkkfgfaaGreatDoor
