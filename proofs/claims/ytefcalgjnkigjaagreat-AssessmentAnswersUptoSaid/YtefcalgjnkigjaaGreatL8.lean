/- Packed. -/
import Derived.Test.YtefcalgjnkigjaaGreatL7
set_option maxRecDepth 100000
set_option maxHeartbeats 8000000
open Go.Value renaming int → I
open Go.IntKind renaming i64 → O
namespace Go.Proofs.YtefcalgjnkigjaaGreat
open Go.RowKit Te Sc
structure MkS (t:Nat) (l:List Int) (w4 wr:World) (g:Nat) (num:Int) (nm:ByteArray) (row:RT) (least:Int) (needs:Bool) (bp:Option Addr) (bn bc:Nat) (br:List Brk) (q:Nat):Prop where
 cells:yA wr g 0 ⟨num,nm,row,bp,bn,bc,least,0,needs⟩
 fr:∀i,wr.frozen? ⟨g,i,none⟩=false
 own:qX SBk wr 78 (g+1) (.slice bp bn bc) br
 bn:br.length=bn
 tape:qV wr t l q
 but:But t w4 wr
 lt:g<wr.heap.size
theorem yA.blk {w w' : World}{b o:Nat}{r:RSx}(h:yA w b o r)(e:w'.heap[b]?=w.heap[b]?):yA w' b o r:=by
 have c:∀i,w'.cell? ⟨b,i,none⟩=w.cell? ⟨b,i,none⟩:=fun i=>World.cell?_of_block (w:=w) (a:=⟨b,i,none⟩) e
 exact⟨(c _).trans h.c0,(c _).trans h.c1,(c _).trans h.c2,(c _).trans h.c3,(c _).trans h.c4,(c _).trans h.c5,(c _).trans h.c6,(c _).trans h.c7,(c _).trans h.c8,(c _).trans h.c9⟩
theorem MkS.next {t:Nat}{l:List Int}{w4 wr w' : World}{g:Nat}{num:Int}{nm:ByteArray}{row:RT}{least:Int}{needs:Bool}{bp:Option Addr}{bn bc:Nat}{br:List Brk}{q q' : Nat}(h:MkS t l w4 wr g num nm row least needs bp bn bc br q)(hb:But t wr w')(ht:qV w' t l q')(hg:t<g) :
  MkS t l w4 w' g num nm row least needs bp bn bc br q' :=by
 have e:=hb.block g h.lt (by omega);exact⟨h.cells.blk e,fun i=>by have:=h.fr i;simp only[World.frozen?,e]at *;exact this,h.own.but hb (by omega),h.bn,ht,h.but.trans hb,nll h.lt hb.size⟩
theorem MkS.sv {t:Nat}{l:List Int}{w4 wr:World}{g B d:Nat}{num:Int}{nm:ByteArray}{row:RT}{tm:Tm}{least:Int}{needs:Bool}{bp:Option Addr}{bn bc:Nat}{br:List Brk}{q:Nat}(h:MkS t l w4 wr g num nm row least needs bp bn bc br q)(hv:TV (jP B) w4 d row tm)(hB:B≤g)(htB:t<B) :
  SV (jP B) wr d ⟨num,nm,row,bp,bn,bc,least,0,needs⟩ ⟨num,nm,tm,br,least,0,needs⟩:=by
 obtain⟨p,c,e,h1,h2,h3, -,h5⟩:=h.own.cut h.bn;simp only[Value.slice.injEq,true_and]at e;obtain⟨rfl,rfl⟩:=e;exact⟨rfl,rfl,hv.change h.but.size fun b hq hl=>⟨h.but.block b hl (by unfold jP at hq;omega),hq⟩,h5,h.bn.symm,h3,fun e=>(h1 e).1,fun a ea => .inr (by have:=(h2 a ea).2.2.1;unfold jP;omega),rfl,rfl,rfl⟩
theorem MkS.snoc {t:Nat}{l:List Int}{w4 w5 w6 w7:World}{g G:Nat}{num:Int}{nm:ByteArray}{row:RT}{least:Int}{needs:Bool}{bp p7:Option Addr}{bn bc n7 c7:Nat}{br:List Brk}{b:Brk}{q:Nat}(h:MkS t l w4 w5 g num nm row least needs bp bn bc br q)(hb:Below w5.heap.size w5 w6)
  (hO:qX SBk w7 78 (g+1) (.slice p7 n7 c7) (br ++ [b])) (hn:br.length+1=n7) (hap:jN w6 w7 (g+1) G (.slice bp bn bc) (.slice p7 n7 c7)) (ht:t<g) (hg:w4.heap.size≤g) :
  MkS t l w4 (w7.setCell ⟨g,6,none⟩ (.slice p7 n7 c7)) g num nm row least needs p7 n7 c7 (br ++ [b]) q:=by
 have hl6:=nll h.lt hb.size;have e7:w7.heap[g]?=w5.heap[g]?:=(hap.below.block g (Nat.lt_succ_self g)).trans (hb.block g h.lt);obtain⟨c0,c1,c2,c3,c4,c5,c6,c7', c8,c9⟩:=h.cells.blk e7;have far:∀{i:Nat} {u:Value},i≠6→w7.cell? ⟨g,0+i,none⟩=some u→(w7.setCell ⟨g,6,none⟩ (.slice p7 n7 c7)).cell? ⟨g,0+i,none⟩=some u:=fun hi hu=>(World.cell?_setCell_other _ _ _ _ (fun e=>by injection e with _ e;omega)).trans hu
 have hS:Below g w7 (w7.setCell ⟨g,6,none⟩ (.slice p7 n7 c7)):=zM _ _ _ _ mle;refine⟨⟨far (i:=0) (by decide) c0,far (i:=1) (by decide) c1,far (i:=2) (by decide) c2,far (i:=3) (by decide) c3,far (i:=4) (by decide) c4,far (i:=5) (by decide) c5,?_,far (i:=7) (by decide) c7', far (i:=8) (by decide) c8,far (i:=9) (by decide) c9⟩,fun i=>?_,?_,?_,?_,?_,?_⟩
 ·have:(0+6)=6:=rfl
  exact World.cell?_setCell_same _ _ _ c6
 ·rw[World.frozen?_setCell]
  have:=h.fr i;simp only[World.frozen?,e7]at *;exact this
 ·exact hO.setOther (fun e=>by have:=(hO.lt e).1;omega) _
 ·rw[lap];exact hn
 ·exact((h.tape.below hb).belowB hap.below (by omega)).belowB hS ht
 ·exact((h.but.nxt hb).stpB hap.below (by omega)).stpB hS hg
 ·rw[jG];exact nll hl6 hap.size
structure LwS (t:Nat) (l:List Int) (w wr:World) (v:Value) (L:List Sch) (kk most q:Nat):Prop where
 at_:xP w.heap.size wr v L
 len:L.length+kk≤most
 sm:∀s∈L,yZ s
 tape:qV wr t l q
 but:But t w wr
theorem LwS.next {t:Nat}{l:List Int}{w wr w' : World}{v:Value}{L:List Sch}{kk most q q' : Nat}(h:LwS t l w wr v L kk most q)(hb:But t wr w')(ht:qV w' t l q')(htw:t<w.heap.size):LwS t l w w' v L kk most q' :=
 ⟨h.at_.but hb htw,h.len,h.sm,ht,h.but.trans hb⟩
theorem LwS.put {t:Nat}{l:List Int}{w wa:World}{v:Value}{L:List Sch}{kk most q g k:Nat}(h:LwS t l w wa v L kk most q)(hk:k<L.length)(hg:w.heap.size≤g)(htw:t<w.heap.size)(x:Int)
  (hp:xP w.heap.size (wa.setCell ⟨g,k*10+8,none⟩ (I O x)) v (L.set k { L[k] with ex:=x })):LwS t l w ((wa.setCell ⟨g,k*10+8,none⟩ (I O x)).drew) v (L.set k { L[k] with ex:=x }) kk most q:=by
 have hb:=zM wa g (k*10+8) (I O x) hg;have hd:Below (wa.setCell ⟨g,k*10+8,none⟩ (I O x)).heap.size (wa.setCell ⟨g,k*10+8,none⟩ (I O x)) (wa.setCell ⟨g,k*10+8,none⟩ (I O x)).drew:=(brf _ _).drew;exact⟨hp.below hd,by rw[List.length_set];exact h.len,yZ.put h.sm hk x,(h.tape.belowB hb htw).below hd,(h.but.stpB hb mle).drew⟩
theorem gY.nil {t:Nat}{l:List Int}{most q:Nat}{w w' : World}(ht:qV w' t l q)(hb:But t w w'):gY t l most w (.returned (.slice none 0 0)) w' :=
 ⟨_, [],q,rfl,xP.nil _ _,rfl,Nat.zero_le _,(fun s hs=>by cases hs),ht,hb⟩
theorem LwS.give {t:Nat}{l:List Int}{w wa w' : World}{v:Value}{L:List Sch}{most q:Nat}(h:LwS t l w wa v L 0 most q)(hb:Below wa.heap.size wa w')(hc:jU L=(-1,0)):gY t l most w (.returned v) w' :=
 ⟨v,L,q,rfl,h.at_.below hb,hc,h.len,h.sm,h.tape.below hb,h.but.nxt hb⟩
theorem qTA (t:Nat)(l:List Int)(q0 most:Nat)(hm:most≤3)(w:World)(h:qV w t l q0) :
  Calls Tryz.prog 82 #[.pointer (some ⟨t,0,none⟩),I O (most:Int)] w (gY t l most w):=by
 have htl:=h.lt;obtain⟨G0,eG0⟩:∃g,qN l q0 2=g:=⟨_,rfl⟩;have b0:=qG l q0 (n:=2) (by omega);rw[eG0]at b0;obtain⟨N0,rfl⟩:∃N:Nat,G0=(N:Int):=Int.eq_ofNat_of_zero_le b0.1;obtain⟨q1,eq1⟩:∃x,qM l q0=x:=⟨_,rfl⟩;obtain⟨G1,eG1⟩:∃g,qN l q1 ((most:Int)+1)=g:=⟨_,rfl⟩;have b1:=qG l q1 (n:=(most:Int)+1) (by omega);rw[eG1]at b1;obtain⟨K0,rfl⟩:∃N:Nat,G1=(N:Int):=Int.eq_ofNat_of_zero_le b1.1;obtain⟨q2,eq2⟩:∃x,qM l q1=x:=⟨_,rfl⟩;have TA:=mh (fun (W:World) (hW:qV W t l q0)=>eq1▸eG0▸qF t l q0 2 W hW (by omega));have TB:=mh (fun (W:World) (hW:qV W t l q1)=>eq2▸eG1▸qF t l q1 ((most:Int)+1) W hW (by omega));have HT0:=mh h;have HK0:=mh (show K0≤most by omega);have HN0:=mh (show N0≤5 by omega);clear h eG0 eq1 eG1 eq2 b0 b1
 go_enter Tryz.func82,Tryz.ntmps82
 go_wp2_with (go_at_call 43;(with_reducible refine cmo (TA.out _ HT0.out) ?_);rintro e w1 ⟨rfl,ht1,hb1⟩)
 (with_reducible refine cmo (TB.out _ ht1) ?_);rintro e w2 ⟨rfl,ht2,hb2⟩;have ST:=mh (show LwS t l w w2 (.slice none 0 0) [] K0 most q2 from⟨xP.nil _ _,(by have:=HK0.out;simp;omega),(fun s hs=>by cases hs),ht2,hb1.trans hb2⟩);clear ht1 hb1 ht2 hb2 TA TB HT0
 go_wp2_with fail
 go_loopw [5,6,7] (fun v nb k wr=>∃(kk nn:Nat) (L:List Sch) (q:Nat),k=I O kk∧nb=I O nn∧nn≤5∧LwS t l w wr v L kk most q) (fun _ _ k _=>(intOf k).toNat)
 case atStart=>exact⟨K0,N0, [],q2,rfl,rfl,HN0.out,ST.out⟩
 case round =>
  clear ST;obtain⟨wo,rfl⟩:∃wo:World,wo=wr:=⟨_,rfl⟩;obtain⟨kk,nn,L,q,rfl,rfl,hn5,hS⟩:=hrel;have HS:=mh hS;have hkk0:(0:Int)≤(kk:Int):=inn _;have hnn0:(0:Int)≤(nn:Int):=inn _;clear hS
  rcases (show kk=0∨(0<kk∧3<nn)∨(0<kk∧nn≤3) by omega) with rfl|⟨hk,hn3⟩|⟨hk,hn3⟩
  ·rw[show((0:Nat):Int)=0 from rfl]
   obtain⟨n,hn⟩:∃n,L.length=n:=⟨_,rfl⟩;obtain⟨p,c,d,rfl,hnc, -, -⟩:=HS.at_.ss hn;have hn3' : n≤3:=by have:=HS.len;omega
   have HS0:=mh (show LwS t l w wo (.slice p n c) L 0 most q from⟨HS.at_,by have:=HS.len;omega,HS.sm,HS.tape,HS.but⟩);have HN:=mh hn;clear HS hn
   go_wp2_with fail
   go_loopw [69] (fun i wr=>∃(j:Nat) (L:List Sch) (q:Nat),j≤n∧i=I O j∧L.length=n∧LwS t l w wr (.slice p n c) L 0 most q) (fun i _=>n - (intOf i).toNat)
   case atStart=>exact⟨0,L,q,Nat.zero_le _,rfl,HN.out,HS0.out⟩
   case round =>
    clear HS0 HN;obtain⟨wi,rfl⟩:∃wi:World,wi=wr:=⟨_,rfl⟩;obtain⟨j,L,q,hj,rfl,hLn,hS⟩:=hrel;have HS:=mh hS;have hj0:(0:Int)≤(j:Int):=inn _;clear hS
    by_cases hjn:j<n
    ·have hj1:(j:Int)<(n:Int):=by omega
     have hjc:(j:Int)≤(c:Int):=by omega
     obtain⟨g,c', -,ev, -, -, -, -, -, -, -, -⟩:=HS.at_.at (k:=j) (by omega);rw[hLn]at ev;simp only[Value.slice.injEq,true_and]at ev;obtain⟨rfl, -⟩:=ev;have HLN:=mh hLn;clear hLn
     go_wp2_with fail
     go_loopw [76] (fun i wr=>∃(k:Nat) (L:List Sch) (q:Nat),k≤j∧i=I O k∧L.length=n∧LwS t l w wr (.slice (some ⟨g,0,none⟩) n c) L 0 most q) (fun i _=>j - (intOf i).toNat)
     case atStart=>exact⟨0,L,q,Nat.zero_le _,rfl,HLN.out,HS.out⟩
     case round =>
      clear HS HLN;obtain⟨wz,rfl⟩:∃wz:World,wz=wr:=⟨_,rfl⟩;obtain⟨k,L,q,hk,rfl,hLn,hS⟩:=hrel;have HS:=mh hS;have HLN:=mh hLn;have hk0:(0:Int)≤(k:Int):=inn _;clear hS hLn
      by_cases hkj:k<j
      ·have hk1:(k:Int)<(j:Int):=by omega
       have hk2:(k:Int)<(n:Int):=by omega
       obtain⟨z,ez⟩:∃z,(qN l q 3==3 - 1)=z:=⟨_,rfl⟩;obtain⟨qa,eqa⟩:∃q', qM l q=q' := ⟨_,rfl⟩
       have ON:=mh (show ∀W,qV W t l q→Calls Tryz.prog 44 #[.pointer (some ⟨t,0,none⟩),I O 3] W (fun e w' => e = .returned (.bool z)∧qV w' t l qa∧But t W w') from fun W hW=>by
        have:=xE t l q 3 W hW (by omega) (by omega);rw[ez,eqa]at this
        exact this)
       clear ez eqa
       cases z
       ·go_wp2_with (go_at_call 44;(with_reducible refine cmo (ON.out _ HS.out.tape) ?_);rintro e wa ⟨rfl,hta,hba⟩;have HSa:=mh (HS.next hba hta htl);clear hta hba)
        go_roundw
        case rel=>exact⟨k+1,L,qa,by omega,by go_num,HLN.out,HSa.out⟩
        case measure=>simp[intOf];omega
       ·go_wp2_with fail
        (with_reducible refine cmo (ON.out _ HS.out.tape) ?_);rintro e wa ⟨rfl,hta,hba⟩;have HSa:=mh (HS.next hba hta htl);clear hta hba HS;have hjL:j<L.length:=by rw[HLN.out];omega
        have hkL:k<L.length:=by rw[HLN.out];omega
        obtain⟨g1,cc1,rj,e1, -,hgB,hgl,hCj,hnj,hej,hfr,hput⟩:=HSa.at_.at hjL;obtain⟨g2,cc2,rk,e2, -, -, -,hCk,hnk,hek, -, -⟩:=HSa.at_.at hkL;rw[HLN.out]at e1 e2;simp only[Value.slice.injEq,Option.some.injEq,Addr.mk.injEq,true_and,and_true]at e1 e2;obtain⟨rfl, -⟩:=e1;obtain⟨rfl, -⟩:=e2;have s1:=HSa.sm _ (List.getElem_mem hkL);have hkn0:0≤rk.num:=hnk.symm▸s1.n0;have hkn3:rk.num≤3:=hnk.symm▸s1.n3;have c8:=hCj.c8;have c0:=hCk.c0;have f8:=hfr (j*10+8);obtain⟨xk,exk⟩:∃x,rk.num=x:=⟨_,rfl⟩;obtain⟨xj,exj⟩:∃x,rj.ex=x:=⟨_,rfl⟩;rw[exk]at c0 hkn0 hkn3;rw[exj]at c8;have HP:=mh hput;clear hCj hCk hnj hnk hej hek hput exk exj s1
        go_wp2_with fail
        go_region
        have HS1:=mh (HSa.put hjL hgB htl _ (HP (bits BinOp.or IntKind.i64 xj (wrap64 (2 ^ xk.toNat)))));obtain⟨L1,eL1⟩:∃L1,L.set j { L[j] with ex:=bits BinOp.or IntKind.i64 xj (wrap64 (2 ^ xk.toNat)) }=L1:=⟨_,rfl⟩;obtain⟨W1,eW1⟩:∃W1,(wa.setCell ⟨g,j*10+8,none⟩ (I O (bits BinOp.or IntKind.i64 xj (wrap64 (2 ^ xk.toNat))))).drew=W1:=⟨_,rfl⟩;rw[eL1,eW1]at HS1;rw[eW1];have HL1:=mh (show L1.length=n from by rw[← eL1,List.length_set,HLN.out]);have hjL1:j<L1.length:=by rw[HL1.out];omega
        have hkL1:k<L1.length:=by rw[HL1.out];omega
        clear eL1 eW1 c8 c0 f8 hkn0 hkn3 HP hfr hgB hgl HSa HLN hjL hkL;obtain⟨g1,cc1,rj,e1, -,hgB,hgl,hCj,hnj,hej,hfr,hput⟩:=HS1.at_.at hkL1;obtain⟨g2,cc2,rk,e2, -, -, -,hCk,hnk,hek, -, -⟩:=HS1.at_.at hjL1;rw[HL1.out]at e1 e2;simp only[Value.slice.injEq,Option.some.injEq,Addr.mk.injEq,true_and,and_true]at e1 e2;obtain⟨rfl, -⟩:=e1;obtain⟨rfl, -⟩:=e2;have s1:=HS1.sm _ (List.getElem_mem hjL1);have hkn0:0≤rk.num:=hnk.symm▸s1.n0;have hkn3:rk.num≤3:=hnk.symm▸s1.n3;have c8:=hCj.c8;have c0:=hCk.c0;have f8:=hfr (k*10+8);obtain⟨xk', exk⟩:∃x,rk.num=x:=⟨_,rfl⟩;obtain⟨xj', exj⟩:∃x,rj.ex=x:=⟨_,rfl⟩;rw[exk]at c0 hkn0 hkn3;rw[exj]at c8;have HP:=mh hput;clear hCj hCk hnj hnk hej hek hput exk exj s1
        go_wp2_with fail
        go_region
        have HS2:=mh (HS1.put hkL1 hgB htl _ (HP (bits BinOp.or IntKind.i64 xj' (wrap64 (2 ^ xk'.toNat)))));have HL2:=mh (show(L1.set k { L1[k] with ex:=bits BinOp.or IntKind.i64 xj' (wrap64 (2 ^ xk'.toNat)) }).length=n from by rw[List.length_set,HL1.out])
        go_wp2
        go_roundw
        case rel=>exact⟨k+1,_,qa,by omega,by go_num,HL2.out,HS2.out⟩
        case measure=>simp[intOf];omega
      ·obtain rfl:k=j:=by omega
       go_wp2
       go_roundw
       case rel=>exact⟨k+1,L,q,by omega,by go_num,HLN.out,HS.out⟩
       case measure=>simp[intOf];omega
    ·obtain rfl:j=n:=by omega
     obtain⟨p2,c2,d2,ev,hc2, -,hss⟩:=HS.at_.ss hLn;simp only[Value.slice.injEq,true_and]at ev;obtain⟨rfl,rfl⟩:=ev;have CK:=mh (kQ d2 p L c _ hss (fun s hs=>by have:=(HS.sm s hs).nm;omega) (by rw[hLn];exact hc2) (fun s hs=>by have:=(HS.sm s hs).ct;omega));rw[hLn]at CK;obtain⟨⟨ci,er⟩,ec⟩:∃cv,jU L=cv:=⟨_,rfl⟩;have EC:=mh ec;rw[ec]at CK;unfold lQ at CK;clear ec hLn hss hc2
     by_cases he:er=0
     ·subst he
      have HV:=mh ((lH (L:=L) (by rw[EC.out])).1)
      go_wp2_with (go_at_call 52;(with_reducible refine cmo CK.out ?_);rintro e wf ⟨rfl,hbf⟩;have HF:=mh (HS.give hbf HV);clear hbf)
      go_ret
      exact HF.out
     ·have hne:(er != 0)=true:=by simpa using he
      clear he
      go_wp2_with (go_at_call 52;(with_reducible refine cmo CK.out ?_);rintro e wf ⟨rfl,hbf⟩;have HF:=mh (gY.nil (most:=most) (HS.tape.below hbf) (HS.but.nxt hbf));clear hbf)
      go_ret
      exact HF.out
  ·have hki:0<(kk:Int):=by omega
   have hni:3<(nn:Int):=by omega
   clear hk hn3;obtain⟨n,hn⟩:∃n,L.length=n:=⟨_,rfl⟩;obtain⟨p,c,d,rfl,hnc, -, -⟩:=HS.at_.ss hn;have hn3' : n≤3:=by have:=HS.len;omega
   have HS0:=mh (show LwS t l w wo (.slice p n c) L 0 most q from⟨HS.at_,by have:=HS.len;omega,HS.sm,HS.tape,HS.but⟩);have HN:=mh hn;clear HS hn
   go_wp2_with fail
   go_loopw [69] (fun i wr=>∃(j:Nat) (L:List Sch) (q:Nat),j≤n∧i=I O j∧L.length=n∧LwS t l w wr (.slice p n c) L 0 most q) (fun i _=>n - (intOf i).toNat)
   case atStart=>exact⟨0,L,q,Nat.zero_le _,rfl,HN.out,HS0.out⟩
   case round =>
    clear HS0 HN;obtain⟨wi,rfl⟩:∃wi:World,wi=wr:=⟨_,rfl⟩;obtain⟨j,L,q,hj,rfl,hLn,hS⟩:=hrel;have HS:=mh hS;have hj0:(0:Int)≤(j:Int):=inn _;clear hS
    by_cases hjn:j<n
    ·have hj1:(j:Int)<(n:Int):=by omega
     have hjc:(j:Int)≤(c:Int):=by omega
     obtain⟨g,c', -,ev, -, -, -, -, -, -, -, -⟩:=HS.at_.at (k:=j) (by omega);rw[hLn]at ev;simp only[Value.slice.injEq,true_and]at ev;obtain⟨rfl, -⟩:=ev;have HLN:=mh hLn;clear hLn
     go_wp2_with fail
     go_loopw [76] (fun i wr=>∃(k:Nat) (L:List Sch) (q:Nat),k≤j∧i=I O k∧L.length=n∧LwS t l w wr (.slice (some ⟨g,0,none⟩) n c) L 0 most q) (fun i _=>j - (intOf i).toNat)
     case atStart=>exact⟨0,L,q,Nat.zero_le _,rfl,HLN.out,HS.out⟩
     case round =>
      clear HS HLN;obtain⟨wz,rfl⟩:∃wz:World,wz=wr:=⟨_,rfl⟩;obtain⟨k,L,q,hk,rfl,hLn,hS⟩:=hrel;have HS:=mh hS;have HLN:=mh hLn;have hk0:(0:Int)≤(k:Int):=inn _;clear hS hLn
      by_cases hkj:k<j
      ·have hk1:(k:Int)<(j:Int):=by omega
       have hk2:(k:Int)<(n:Int):=by omega
       obtain⟨z,ez⟩:∃z,(qN l q 3==3 - 1)=z:=⟨_,rfl⟩;obtain⟨qa,eqa⟩:∃q', qM l q=q' := ⟨_,rfl⟩
       have ON:=mh (show ∀W,qV W t l q→Calls Tryz.prog 44 #[.pointer (some ⟨t,0,none⟩),I O 3] W (fun e w' => e = .returned (.bool z)∧qV w' t l qa∧But t W w') from fun W hW=>by
        have:=xE t l q 3 W hW (by omega) (by omega);rw[ez,eqa]at this
        exact this)
       clear ez eqa
       cases z
       ·go_wp2_with (go_at_call 44;(with_reducible refine cmo (ON.out _ HS.out.tape) ?_);rintro e wa ⟨rfl,hta,hba⟩;have HSa:=mh (HS.next hba hta htl);clear hta hba)
        go_roundw
        case rel=>exact⟨k+1,L,qa,by omega,by go_num,HLN.out,HSa.out⟩
        case measure=>simp[intOf];omega
       ·go_wp2_with fail
        (with_reducible refine cmo (ON.out _ HS.out.tape) ?_);rintro e wa ⟨rfl,hta,hba⟩;have HSa:=mh (HS.next hba hta htl);clear hta hba HS;have hjL:j<L.length:=by rw[HLN.out];omega
        have hkL:k<L.length:=by rw[HLN.out];omega
        obtain⟨g1,cc1,rj,e1, -,hgB,hgl,hCj,hnj,hej,hfr,hput⟩:=HSa.at_.at hjL;obtain⟨g2,cc2,rk,e2, -, -, -,hCk,hnk,hek, -, -⟩:=HSa.at_.at hkL;rw[HLN.out]at e1 e2;simp only[Value.slice.injEq,Option.some.injEq,Addr.mk.injEq,true_and,and_true]at e1 e2;obtain⟨rfl, -⟩:=e1;obtain⟨rfl, -⟩:=e2;have s1:=HSa.sm _ (List.getElem_mem hkL);have hkn0:0≤rk.num:=hnk.symm▸s1.n0;have hkn3:rk.num≤3:=hnk.symm▸s1.n3;have c8:=hCj.c8;have c0:=hCk.c0;have f8:=hfr (j*10+8);obtain⟨xk,exk⟩:∃x,rk.num=x:=⟨_,rfl⟩;obtain⟨xj,exj⟩:∃x,rj.ex=x:=⟨_,rfl⟩;rw[exk]at c0 hkn0 hkn3;rw[exj]at c8;have HP:=mh hput;clear hCj hCk hnj hnk hej hek hput exk exj s1
        go_wp2_with fail
        go_region
        have HS1:=mh (HSa.put hjL hgB htl _ (HP (bits BinOp.or IntKind.i64 xj (wrap64 (2 ^ xk.toNat)))));obtain⟨L1,eL1⟩:∃L1,L.set j { L[j] with ex:=bits BinOp.or IntKind.i64 xj (wrap64 (2 ^ xk.toNat)) }=L1:=⟨_,rfl⟩;obtain⟨W1,eW1⟩:∃W1,(wa.setCell ⟨g,j*10+8,none⟩ (I O (bits BinOp.or IntKind.i64 xj (wrap64 (2 ^ xk.toNat))))).drew=W1:=⟨_,rfl⟩;rw[eL1,eW1]at HS1;rw[eW1];have HL1:=mh (show L1.length=n from by rw[← eL1,List.length_set,HLN.out]);have hjL1:j<L1.length:=by rw[HL1.out];omega
        have hkL1:k<L1.length:=by rw[HL1.out];omega
        clear eL1 eW1 c8 c0 f8 hkn0 hkn3 HP hfr hgB hgl HSa HLN hjL hkL;obtain⟨g1,cc1,rj,e1, -,hgB,hgl,hCj,hnj,hej,hfr,hput⟩:=HS1.at_.at hkL1;obtain⟨g2,cc2,rk,e2, -, -, -,hCk,hnk,hek, -, -⟩:=HS1.at_.at hjL1;rw[HL1.out]at e1 e2;simp only[Value.slice.injEq,Option.some.injEq,Addr.mk.injEq,true_and,and_true]at e1 e2;obtain⟨rfl, -⟩:=e1;obtain⟨rfl, -⟩:=e2;have s1:=HS1.sm _ (List.getElem_mem hjL1);have hkn0:0≤rk.num:=hnk.symm▸s1.n0;have hkn3:rk.num≤3:=hnk.symm▸s1.n3;have c8:=hCj.c8;have c0:=hCk.c0;have f8:=hfr (k*10+8);obtain⟨xk', exk⟩:∃x,rk.num=x:=⟨_,rfl⟩;obtain⟨xj', exj⟩:∃x,rj.ex=x:=⟨_,rfl⟩;rw[exk]at c0 hkn0 hkn3;rw[exj]at c8;have HP:=mh hput;clear hCj hCk hnj hnk hej hek hput exk exj s1
        go_wp2_with fail
        go_region
        have HS2:=mh (HS1.put hkL1 hgB htl _ (HP (bits BinOp.or IntKind.i64 xj' (wrap64 (2 ^ xk'.toNat)))));have HL2:=mh (show(L1.set k { L1[k] with ex:=bits BinOp.or IntKind.i64 xj' (wrap64 (2 ^ xk'.toNat)) }).length=n from by rw[List.length_set,HL1.out])
        go_wp2
        go_roundw
        case rel=>exact⟨k+1,_,qa,by omega,by go_num,HL2.out,HS2.out⟩
        case measure=>simp[intOf];omega
      ·obtain rfl:k=j:=by omega
       go_wp2
       go_roundw
       case rel=>exact⟨k+1,L,q,by omega,by go_num,HLN.out,HS.out⟩
       case measure=>simp[intOf];omega
    ·obtain rfl:j=n:=by omega
     obtain⟨p2,c2,d2,ev,hc2, -,hss⟩:=HS.at_.ss hLn;simp only[Value.slice.injEq,true_and]at ev;obtain⟨rfl,rfl⟩:=ev;have CK:=mh (kQ d2 p L c _ hss (fun s hs=>by have:=(HS.sm s hs).nm;omega) (by rw[hLn];exact hc2) (fun s hs=>by have:=(HS.sm s hs).ct;omega));rw[hLn]at CK;obtain⟨⟨ci,er⟩,ec⟩:∃cv,jU L=cv:=⟨_,rfl⟩;have EC:=mh ec;rw[ec]at CK;unfold lQ at CK;clear ec hLn hss hc2
     by_cases he:er=0
     ·subst he
      have HV:=mh ((lH (L:=L) (by rw[EC.out])).1)
      go_wp2_with (go_at_call 52;(with_reducible refine cmo CK.out ?_);rintro e wf ⟨rfl,hbf⟩;have HF:=mh (HS.give hbf HV);clear hbf)
      go_ret
      exact HF.out
     ·have hne:(er != 0)=true:=by simpa using he
      clear he
      go_wp2_with (go_at_call 52;(with_reducible refine cmo CK.out ?_);rintro e wf ⟨rfl,hbf⟩;have HF:=mh (gY.nil (most:=most) (HS.tape.below hbf) (HS.but.nxt hbf));clear hbf)
      go_ret
      exact HF.out
  ·have hki:0<(kk:Int):=by omega
   have hni:(nn:Int)≤3:=by omega
   obtain⟨d0,R,hLR⟩:=HS.at_;have hkk3:kk≤3:=by have:=HS.len;omega
   have HLR:=mh hLR;obtain⟨X,eX⟩:∃X:ByteArray,(⟨(Lib.itoa (nn:Int)).toArray⟩:ByteArray)=X:=⟨_,rfl⟩;have hX:X.size≤20:=by
    rw[← eX]
    show(Lib.itoa (nn:Int)).toArray.size≤20
    have:=uSA (n:=(nn:Int)) hnn0 (k:=9) (by omega) (by omega)
    simp
    omega
   have DC:=mh (zWA (nn:Int) wo (by omega) (by omega));unfold tM at DC;rw[eX]at DC;have TM:=mh (show ∀W,qV W t l q→Calls Tryz.prog 118 #[.pointer (some ⟨t,0,none⟩),I O 2] W (vC t l 2 W) from fun W hW=>dU t l 2 (by omega) q W hW);clear eX hLR hk hn3
   go_wp2_with (go_at_call 117;(with_reducible refine cmo DC.out ?_);rintro e w1 ⟨rfl,hb1⟩;have HB1:=mh hb1;clear hb1)
   (with_reducible refine cmo (TM.out _ (HS.out.tape.below HB1.out)) ?_);rintro e w2 ⟨⟨o,tn,tm,tp,tl,tc⟩,tmx,d1,q2,rfl,hv2,hct,ht2,hb2⟩;have HV2:=mh hv2;have HCT:=mh hct;have HB2:=mh ((But.of_below (t:=t) HB1).trans hb2);have HT2:=mh ht2;simp only;clear hv2 hct hb2 ht2
   go_wp2_with fail
   (with_reducible refine cmo (qF t l q2 4 _ HT2.out (by decide)) ?_);rintro e w3 ⟨rfl,ht3,hb3⟩;obtain⟨least,el⟩:∃x,qN l q2 4=x:=⟨_,rfl⟩;obtain⟨q3,eq3⟩:∃x,qM l q2=x:=⟨_,rfl⟩;rw[el];rw[eq3]at ht3;have HT3:=mh ht3;have HB3:=mh (HB2.trans hb3);have HV3:=mh (show TV (jP wo.heap.size) w3 d1 ⟨o,tn,tm,tp,tl,tc⟩ tmx from HV2.change hb3.size fun b hq hl=>⟨hb3.block b hl (by have:=HB1.size;have:=htl;have:=HS.but.size;unfold jP at hq;omega),by have:=HB1.size;unfold jP at *;omega⟩);clear el eq3 ht3 hb3
   go_wp2_with fail
   (with_reducible refine cmo (xE t l q3 2 _ HT3.out (by decide) (by decide)) ?_);rintro e w4 ⟨rfl,ht4,hb4⟩;obtain⟨needs,ee⟩:∃x,(qN l q3 2==2 - 1)=x:=⟨_,rfl⟩;obtain⟨q4,eq4⟩:∃x,qM l q3=x:=⟨_,rfl⟩;rw[ee];rw[eq4]at ht4;have HT4:=mh ht4;have HB4:=mh (HB3.trans hb4);have HV4:=mh (show TV (jP wo.heap.size) w4 d1 ⟨o,tn,tm,tp,tl,tc⟩ tmx from HV3.change hb4.size fun b hq hl=>⟨hb4.block b hl (by have:=htl;have:=HS.but.size;unfold jP at hq;omega),hq⟩);clear ee eq4 ht4 hb4
   go_wp2_with fail
   obtain⟨nm,enm⟩:∃nm,(⟨#[115]⟩:ByteArray)++X=nm:=⟨_,rfl⟩;have hnm:nm.size≤40:=by rw[← enm,ByteArray.size_append];show 1+X.size≤40;omega
   rw[enm];clear enm hX;obtain⟨W5,eW5⟩:∃W:World,w4.alloc (.cells #[I O (nn:Int),.string nm,I O o,I O tn,I O tm,.slice tp tl tc,.slice none 0 0,I O least,I O 0,.bool needs] 81)=W:=⟨_,rfl⟩
   have M5:=mh (show MkS t l w4 W5 w4.heap.size (nn:Int) nm ⟨o,tn,tm,tp,tl,tc⟩ least needs none 0 0 [] q4 from by
    rw[← eW5];have hA:=qK mle (brf w4.heap.size w4) (.cells #[I O (nn:Int),.string nm,I O o,I O tn,I O tm,.slice tp tl tc,.slice none 0 0,I O least,I O 0,.bool needs] 81)
    exact⟨yA.box w4 ⟨(nn:Int),nm,⟨o,tn,tm,tp,tl,tc⟩,none,0,0,least,0,needs⟩ 81,fun i=>by simp only[World.frozen?,World.alloc_heap_new];simp,qX.nil _ _ _,rfl,HT4.below hA,But.of_below hA,by simp⟩)
   have hwg:w.heap.size≤w4.heap.size:=Nat.le_trans HS.but.size HB4.size;have hog:wo.heap.size≤w4.heap.size:=HB4.size;obtain⟨g,eg⟩:∃g,w4.heap.size=g:=⟨_,rfl⟩;have EG:=mh eg;rw[eW5];rw[eg]at M5 hwg hog ⊢;have htg:t<g:=by omega
   clear eW5 eg;(with_reducible refine cmo (zU t l q4 1 3 _ M5.out.tape (by decide) (by decide) (by decide)) ?_);rintro e w5 ⟨rfl,ht5,hb5⟩;obtain⟨nb,enb⟩:∃x:Int,1+qN l q4 (3 - 1+1)=x:=⟨_,rfl⟩;have hgb:=qG l q4 (n:=3 - 1+1) (by decide);obtain⟨NB,rfl⟩:∃N:Nat,nb=(N:Int):=Int.eq_ofNat_of_zero_le (by omega);have hNB:NB≤3:=by omega
   rw[enb];have M50:=mh (M5.next hb5 ht5 htg);clear enb hgb ht5 hb5
   go_wp2_with fail
   go_loopw [9,10] (fun u nv wr=>∃(n2:Nat) (up:Int) (bp:Option Addr) (bn bc:Nat) (br:List Brk) (q:Nat),nv=I O n2∧u=I O up∧n2+br.length≤3∧0≤up∧up+40*n2≤160∧MkS t l w4 wr g (nn:Int) nm ⟨o,tn,tm,tp,tl,tc⟩ least needs bp bn bc br q) (fun _ n _=>(intOf n).toNat)
   case atStart=>exact⟨NB,0,none,0,0, [],_,rfl,rfl,by simpa using hNB,by omega,by omega,M50.out⟩
   case round =>
    clear M50 M5;obtain⟨wi,rfl⟩:∃wi:World,wi=wr:=⟨_,rfl⟩;obtain⟨n2,up,bp,bn,bc,br,q5,rfl,rfl,hn2,hu0,hu1,hM⟩:=hrel;have HMK:=mh hM;have hn20:(0:Int)≤(n2:Int):=inn _;clear hM
    by_cases hz:n2=0
    ·subst hz
     rw[show((0:Nat):Int)=0 from rfl];obtain⟨c0,c1,c2,c3,c4,c5,c6,c7,c8,c9⟩:=HMK.cells;simp only[Nat.zero_add]at c1 c2 c3 c4 c5 c6 c7 c8 c9;have HBI:=mh (HB4.trans HMK.but);have HOW:=mh (HLR.own.but HBI htl);have HSV:=mh (HMK.sv HV4 hog (by have:=htl;have:=HS.but.size;omega));have hwi:w.heap.size≤wi.heap.size:=Nat.le_trans HS.but.size HBI.size;have HRL:=mh (show R.length≤3 by have:=HLR.hl;have:=HS.len;omega)
     go_wp2_with (first|(at_builtin;(refine qX.append fY rfl (.tmp 59) (.tmp 61) rfl w.heap.size _ R ⟨(nn:Int),nm,⟨o,tn,tm,tp,tl,tc⟩,bp,bn,bc,least,0,needs⟩ #[I O (nn:Int),.string nm,I O o,I O tn,I O tm,.slice tp tl tc,.slice bp bn bc,I O least,I O 0,.bool needs] rfl HOW rfl (by simp[Act.eval]) hwi (by have:=HRL.out;omega) (by decide) ?_);intro v6 w6 hO6 hap6)|fail)
     obtain⟨mk,rfl⟩:∃m,kk=m+1:=⟨kk - 1,by omega⟩;have HLW:=mh (HLR.push HS.but.size HBI htl (Nat.le_succ _) HSV hO6 hap6);have HT6:=mh (HMK.tape.belowB hap6.below htl);have HB6:=mh ((HS.but.trans HBI).stpB hap6.below mle);clear hO6 hap6;(with_reducible refine cmo (zU t l q5 1 2 _ HT6.out (by decide) (by decide) (by decide)) ?_);rintro e w7 ⟨rfl,ht7,hb7⟩;obtain⟨nb,enb⟩:∃x:Int,1+qN l q5 (2 - 1+1)=x:=⟨_,rfl⟩;have hgb:=qG l q5 (n:=2 - 1+1) (by decide);obtain⟨N2,rfl⟩:∃N:Nat,nb=(N:Int):=Int.eq_ofNat_of_zero_le (by omega);have hN2:N2≤2:=by omega
     have hN20:(0:Int)≤(N2:Int):=inn _;rw[enb]
     have HF:=mh (show LwS t l w w7 v6 (L ++ [⟨(nn:Int),nm,tmx,br,least,0,needs⟩]) mk most _ from⟨HLW.but hb7 htl,by have:=HS.len;rw[lap];simp;omega,fun s hs=>by
      rcases List.mem_append.1 hs with hs|hs
      ·exact HS.sm s hs
      ·obtain rfl:=List.mem_singleton.1 hs
       exact⟨hnm,HCT.out,hnn0,hni⟩,ht7,HB6.trans hb7⟩)
     clear enb hgb ht7 hb7
     go_wp2_with fail
     go_roundw
     case rel=>exact⟨mk,nn+N2,_,_,by go_num,by go_num,by omega,HF.out⟩
     case measure=>simp[intOf]
    ·obtain⟨m2,rfl⟩:∃m,n2=m+1:=⟨n2 - 1,by omega⟩
     have hn2p:0<((m2+1:Nat):Int):=by omega
     go_wp2_with fail
     (with_reducible refine cmo (zU t l q5 1 40 _ HMK.out.tape (by decide) (by decide) (by decide)) ?_);rintro e w7 ⟨rfl,ht7,hb7⟩;obtain⟨u1,eu1⟩:∃x:Int,1+qN l q5 (40 - 1+1)=x:=⟨_,rfl⟩;have hgb:=qG l q5 (n:=40 - 1+1) (by decide);have hu10:0≤u1:=by omega
     have hu11:u1≤40:=by omega
     rw[eu1];obtain⟨q6,eq6⟩:∃x,qM l q5=x:=⟨_,rfl⟩;rw[eq6]at ht7;have MX:=mh (HMK.next hb7 ht7 htg);clear eu1 eq6 hgb ht7 hb7 HMK;obtain⟨c0,c1,c2,c3,c4,c5,c6,c7,c8,c9⟩:=MX.cells;simp only[Nat.zero_add]at c6;clear c0 c1 c2 c3 c4 c5 c7 c8 c9;have f6:=MX.fr 6;obtain⟨up2,eup⟩:∃x,up+u1=x:=⟨_,rfl⟩;have hup0:0≤up2:=by omega
     have hup1:up2+40*(m2:Int)≤160:=by omega
     have hwr:IntKind.i64.wrap (up+u1)=up2:=by rw[eup,IntKind.wrap_i64];omega
     have ENX:=mh (show ∀args W,(callFunc 43 args).run Tryz.prog W = .ok (.enter 43 args) W from enters_of Tryz.func43 (by kernel_rfl) rfl);obtain⟨rt,ert⟩:∃x,qN l q6 3000=x:=⟨_,rfl⟩;obtain⟨q7,eq7⟩:∃x,qM l q6=x:=⟨_,rfl⟩;have NXC:=mh (fun (W:World) (hW:qV W t l q6)=>eq7▸ert▸qF t l q6 3000 W hW (by omega));have HTd:=mh (MX.tape.below (brf _ _).drew);have MXd:=mh (MX.next (t:=t) ((But.refl t w7).drew) HTd htg);clear ert eq7
     go_wp2_with fail
     go_region_law (first
      | (refine uQA (by rfl) 43 #[.tmp 53,.const (I O 3000)] #[32,3] #[.pointer (some ⟨t,0,none⟩),I O 3000] (by rfl) ENX (by first|(simp[Act.eval];done)|(simp[Act.eval,Act.put];done)) (NXC _ HTd) ?_;rintro e w8 ⟨rfl,ht8,hb8⟩;refine⟨_,rfl,?_⟩;have M8:=mh (MXd.next hb8 ht8 htg);have HA8:=mh (qK mle (brf w8.heap.size w8) (.cells #[I O up2,I O rt] 78));have HO8:=mh (M8.own.below HA8);have SRC:=mh (uAA w8 ⟨up2,rt⟩);have k6:=M8.cells.c6;simp only[Nat.zero_add]at k6;have h86:=M8.fr 6;have kA6:=(HA8.cell (p:=⟨g,6,none⟩) M8.lt).trans k6;clear ht8 hb8)
      | (refine qX.stepAp el_brk (by rfl) (.tmp 51) (.tmp 56) (by rfl) (g+1) (.slice bp bn bc) br [⟨up2,rt⟩] (some ⟨w8.heap.size,0,none⟩) 1 1 rfl HO8 SRC (fun h=>by cases h) (by rfl) (by rfl) (by have:=M8.lt;simp;omega) (by omega) (by decide) ?_;intro v7 w9 hO7 hap7;obtain⟨p7,cc7,rfl, -⟩:=hO7.cut (show(br ++ [(⟨up2,rt⟩:Brk)]).length=br.length+1 by rw[lap];rfl);have k9:=(hap7.below.cell (p:=⟨g,6,none⟩) (Nat.lt_succ_self g)).trans ((HA8.cell (p:=⟨g,6,none⟩) M8.lt).trans k6);have h9:=(hap7.below.frozen (p:=⟨g,6,none⟩) (Nat.lt_succ_self g)).trans ((HA8.frozen (p:=⟨g,6,none⟩) M8.lt).trans h86);have M9:=mh (M8.snoc HA8 hO7 rfl hap7 htg (Nat.le_of_eq EG)))
      | fail)
     all_goals
      clear k9 h9 k6 h86 kA6
      go_wp2
      go_roundw
      case rel=>exact⟨m2,up2,p7,br.length+1,cc7,br ++ [⟨up2,rt⟩],q7,by go_num,rfl,by rw[lap];simp;omega,hup0,hup1,M9.out⟩
      case measure=>simp[intOf]
namespace Sc
open Go.Lib Te Cr
theorem bQ {s:Sch}(h:zY s=0):0≤s.num∧s.num≤15∧0≤s.least∧s.least≤268435456∧gH s.cond=0∧brB s.br=true∧(0≤s.ex∧s.ex<65536)∧Wo.nameB s.nm.data.toList=true:=by
 unfold zY at h
 split at h
 ·cases h
 rename_i g1
 split at h
 ·cases h
 rename_i g2
 split at h
 ·rename_i h1;exact absurd h h1
 rename_i g3
 split at h
 ·cases h
 rename_i g4
 refine⟨by omega,by omega,by omega,by omega,by omega,?_,⟨by omega,by omega⟩,by simpa using g2⟩
 cases e:brB s.br
 ·exact absurd (.inl e) g4
 ·rfl
theorem uDA {l:List Brk}(h:brB l=true):yD l l.length=true:=by
 unfold brB at h;rw[Bool.and_eq_true]at h;exact h.1
theorem gJ {l:List Brk}{k:Nat}(hk:k<l.length)(h:yD l (k+1)=true):upB l k<l[k].up∧l[k].up≤268435456∧0≤l[k].rate∧l[k].rate≤1048576∧0≤upB l k:=by
 have h2:=h;rw[xS,Bool.and_eq_true]at h2;have h3:=h2.2;rw[wX hk,Bool.and_eq_true,Bool.and_eq_true,Bool.and_eq_true,decide_eq_true_eq,decide_eq_true_eq,decide_eq_true_eq,decide_eq_true_eq]at h3;exact⟨h3.1,h3.2.1,h3.2.2.1,h3.2.2.2,fM (by omega) h2.1⟩
/-! ### words -/
/-! ### how long -/
/-! ### reading -/
theorem fW {f:Nat→Int}{n:Nat}(h:fst f n=none):∀j,j<n→f j=0:=by
 intro j hj;unfold fst at h;have:=List.find?_eq_none.1 h j (List.mem_range.2 hj)
 simpa using this
structure vFA (L:List Sch):Prop where
 len:L.length≤16
 one:∀s∈L,zY s=0
 asc:∀i j (hi:i<L.length) (hj:j<L.length),i<j→L[i].num<L[j].num
 mtl:∀s∈L,zP L s=true
theorem wD {L:List Sch}(h:jU L=(-1,0)):vFA L:=by
 unfold jU at h
 by_cases h16:16<L.length
 ·rw[if_pos h16]at h;cases h
 rw[if_neg h16]at h;have hA:fst (xX L) L.length=none:=by
  cases e:fst (xX L) L.length with
  | none=>rfl
  | some i=>rw[e]at h;simp only[Prod.mk.injEq]at h;omega
 rw[hA]at h;simp only at h;have hB:fst (uY L) L.length=none:=by
  cases e:fst (uY L) L.length with
  | none=>rfl
  | some i=>rw[e]at h;simp only[Prod.mk.injEq]at h;omega
 have kA:=fW hA;have kB:=fW hB;have one:∀i (hi:i<L.length),zY L[i]=0∧yH L i L[i]=false:=fun i hi=>by
  have:=kA i hi;unfold xX at this;rw[List.getElem?_eq_getElem hi]at this;simp only at this
  split at this
  ·rename_i h1;exact absurd this h1
  ·rename_i h1
   split at this
   ·cases this
   ·rename_i h2
    exact⟨Decidable.not_not.1 h1,by simpa using h2⟩
 have step:∀i (hi:i+1<L.length),L[i].num<L[i+1].num:=fun i hi=>by
  have:=(one (i+1) hi).2;unfold yH at this;rw[Bool.or_eq_false_iff]at this;have h1:=this.1;simp only at h1;rw[List.getElem?_eq_getElem (by omega)]at h1;simp only[decide_eq_false_iff_not]at h1;omega
 refine⟨by omega,fun s hs=>?_,fun i j hi hj hij=>?_,fun s hs=>?_⟩
 ·obtain⟨i,hi,rfl⟩:=List.mem_iff_getElem.1 hs
  exact(one i hi).1
 ·obtain⟨k,rfl⟩:∃k,j=i+1+k:=⟨j - (i+1),by omega⟩
  clear hij
  induction k with
  | zero=>exact step i hj
  | succ k ih =>
    have h1:=ih (by omega);have h2:=step (i+1+k) hj;exact Int.lt_trans h1 h2
 ·obtain⟨i,hi,rfl⟩:=List.mem_iff_getElem.1 hs
  have:=kB i hi;unfold uY at this;rw[List.getElem?_eq_getElem hi]at this;simp only at this
  split at this
  ·assumption
  ·cases this
theorem vFA.num {L:List Sch}(h:vFA L){a:Sch}(ha:a∈L):0≤a.num∧a.num≤15:=⟨(bQ (h.one a ha)).1,(bQ (h.one a ha)).2.1⟩
/-! ### rates that do not rise -/
end Sc
end Go.Proofs.YtefcalgjnkigjaaGreat
namespace Go.Proofs.YtefcalgjnkigjaaGreat.Ex
def fits (a b:Int):Bool:=decide (-1125899906842624≤a)&&decide (a≤1125899906842624)&&decide (1≤b)&&decide (b≤1099511627776)
theorem fits_iff {a b:Int}:fits a b=true ↔ -1125899906842624≤a∧a≤1125899906842624∧1≤b∧b≤1099511627776:=by
 unfold fits;simp[and_assoc]
theorem fits_of {a b:Int}(h1 : -1125899906842624≤a)(h2:a≤1125899906842624)(h3:1≤b)(h4:b≤1099511627776):fits a b=true:=fits_iff.2 ⟨h1,h2,h3,h4⟩
def down (a b:Int):Int:=if fits a b=true then a / b else 0
def up (a b:Int):Int := - down (-a) b
theorem tdiv_floor {a b:Int}(hb:1≤b):(if a.tmod b<0 then a.tdiv b - 1 else a.tdiv b)=a / b:=by
 have h:=Int.tdiv_eq_ediv (a:=a) (b:=b);have h2:=Int.tmod_eq_emod (a:=a) (b:=b);have e1:=Int.emod_lt_of_pos a (show 0<b by omega);have e2:=Int.emod_nonneg a (show b≠0 by omega);have hs:b.sign=1:=Int.sign_eq_one_of_pos (by omega)
 by_cases hc:0≤a∨b ∣ a
 ·rw[if_pos hc]at h h2
  rw[h,h2,if_neg (by omega)];omega
 ·rw[if_neg hc]at h h2
  have:a % b≠0:=fun e=>hc (.inr (Int.dvd_of_emod_eq_zero e))
  have hn:((b.natAbs:Nat):Int)=b:=by omega
  rw[h,h2,if_pos (by omega),hs];omega
theorem tdiv_bd {a b:Int}(h:fits a b=true) : -1125899906842624≤a.tdiv b∧a.tdiv b≤1125899906842624:=by
 obtain⟨h1,h2,h3,h4⟩:=fits_iff.1 h;have:=Int.natAbs_tdiv_le_natAbs a b;omega
theorem tdiv_mul {a b:Int}(h:fits a b=true) : -1125899906842624≤a.tdiv b*b∧a.tdiv b*b≤1125899906842624∧(if a<a.tdiv b*b then a.tdiv b - 1 else a.tdiv b)=a / b:=by
 obtain⟨h1,h2,h3,h4⟩:=fits_iff.1 h;have e:=Int.tmod_add_tdiv_mul a b;have f:=tdiv_floor (a:=a) h3;refine⟨?_,?_,?_⟩
 ·by_cases ha:0≤a
  ·have:=Int.mul_nonneg (Int.tdiv_nonneg ha (show 0≤b by omega)) (show 0≤b by omega);omega
  ·have:=Int.tmod_nonneg (a := -a) b (by omega);rw[Int.neg_tmod]at this;omega
 ·by_cases ha:0≤a
  ·have:=Int.tmod_nonneg (a:=a) b ha;omega
  ·have h0:a.tdiv b≤0:=by have:=Int.tdiv_nonneg (show 0 ≤ -a by omega) (show 0≤b by omega);rw[Int.neg_tdiv]at this;omega
   have:=Int.mul_le_mul_of_nonneg_right h0 (show 0≤b by omega);omega
 ·rw[← f]
  by_cases hc:a<a.tdiv b*b
  ·rw[if_pos hc,if_pos (by omega)]
  ·rw[if_neg hc,if_neg (by omega)]
theorem down_bd (a b:Int) : -1125899906842624≤down a b∧down a b≤1125899906842624:=by
 unfold down
 split
 ·rename_i h
  obtain⟨h1,h2,h3,h4⟩:=fits_iff.1 h;refine⟨?_,?_⟩
  ·rw[Int.le_ediv_iff_mul_le (by omega)]
   have : -1125899906842624*b ≤ -1125899906842624*1:=Int.mul_le_mul_of_nonpos_left (by omega) h3;omega
  ·by_cases ha:0≤a
   ·have:=Int.ediv_le_self b ha;omega
   ·have:=Int.ediv_neg_of_neg_of_pos (show a<0 by omega) (show 0<b by omega);omega
 ·omega
end Go.Proofs.YtefcalgjnkigjaaGreat.Ex
namespace Go.Proofs.YtefcalgjnkigjaaGreat.As
/-! ### determined -/
structure Fct where
 decl:Int
 due:Int
 season:Int
 kind:Int
 area:Int
 border:Int
def measB (a b:Int):Bool:=decide (0≤a)&&(decide (a≤268435456)&&(decide (0≤b)&&decide (b≤16777216)))
def seenB (k a b:Int):Bool:=decide (0≤k)&&(decide (k≤4)&&(if k=1 then measB a b else decide (a=0)&&decide (b=0)))
def factB (f:Fct):Bool:=decide (0≤f.decl)&&(decide (f.decl≤268435456)&&(decide (0≤f.due)&&(decide (f.due≤f.decl)&&(decide (-1≤f.season)&&(decide (f.season≤1)&&seenB f.kind f.area f.border)))))
def chk28 (f:Fct) (width:Int):Int:=if factB f=false then 68 else if width<0∨200<width then 2 else 0
def margin (a b width:Int):Int:=min (Ex.up (b*width) 100) a
def accept (c a b width:Int):Int:=if max (c - a) (a - c)≤margin a b width then c else a
def lim (f:Fct) (width:Int):Option (Int × Int) :=
 if f.kind=0 then (if f.season = -1 then some (2,0) else none)
 else if f.kind=4 then some (3,0)
 else if f.kind=3 then some (4,0)
 else if f.kind=2 then some (5,0)
 else some (6,accept f.decl f.area f.border width)
def det1 (f:Fct):Int × Int:=if f.due<f.decl then (f.due,1) else (f.decl,0)
def det (f:Fct) (width:Int):Int × Int :=
 match lim f width with
 | some (r,a)=>if a<(det1 f).1 then (a,r) else det1 f
 | none=>det1 f
structure FactOk (f:Fct):Prop where
 d0:0≤f.decl
 d1:f.decl≤268435456
 u0:0≤f.due
 u1:f.due≤f.decl
 s0 : -1≤f.season
 s1:f.season≤1
 k0:0≤f.kind
 k1:f.kind≤4
 a0:0≤f.area
 a1:f.area≤268435456
 b0:0≤f.border
 b1:f.border≤16777216
 none:f.kind≠1→f.area=0∧f.border=0
theorem seenB_iff {k a b:Int}:seenB k a b=true↔0≤k∧k≤4∧(k=1→0≤a∧a≤268435456∧0≤b∧b≤16777216)∧(k≠1→a=0∧b=0):=by
 unfold seenB measB
 by_cases h:k=1
 ·rw[if_pos h]
  simp only[Bool.and_eq_true,decide_eq_true_eq]
  constructor
  ·intro hh;exact⟨hh.1,hh.2.1,fun _=>hh.2.2,fun e=>absurd h e⟩
  ·intro hh;exact⟨hh.1,hh.2.1,hh.2.2.1 h⟩
 ·rw[if_neg h]
  simp only[Bool.and_eq_true,decide_eq_true_eq]
  constructor
  ·intro hh;exact⟨hh.1,hh.2.1,fun e=>absurd e h,fun _=>hh.2.2⟩
  ·intro hh;exact⟨hh.1,hh.2.1,hh.2.2.2 h⟩
theorem factOk {f:Fct}(h:factB f=true):FactOk f:=by
 unfold factB at h;simp only[Bool.and_eq_true,decide_eq_true_eq]at h;obtain⟨h1,h2,h3,h4,h5,h6,h7⟩:=h;obtain⟨k0,k1,k2,k3⟩:=seenB_iff.1 h7
 by_cases hk:f.kind=1
 ·obtain⟨a0,a1,a2,a3⟩:=k2 hk
  exact⟨h1,h2,h3,h4,h5,h6,k0,k1,a0,a1,a2,a3,k3⟩
 ·obtain⟨a0,a1⟩:=k3 hk
  exact⟨h1,h2,h3,h4,h5,h6,k0,k1,by omega,by omega,by omega,by omega,k3⟩
theorem chk28_zero {f:Fct}{width:Int}(h:chk28 f width=0):FactOk f∧0≤width∧width≤200:=by
 unfold chk28 at h
 split at h
 ·cases h
 ·rename_i h1
  split at h
  ·cases h
  ·exact⟨factOk (by simpa using h1),by omega,by omega⟩
theorem up_bd {x:Int}(x0:0≤x)(x1:x≤1125899906842624):0≤Ex.up x 100∧Ex.up x 100≤1125899906842624∧Ex.up x 100=(x+99) / 100:=by
 have h:Ex.up x 100 = -((-x) / 100):=by
  unfold Ex.up Ex.down;rw[if_pos (Ex.fits_of (by omega) (by omega) (by omega) (by omega))]
 rw[h];omega
theorem prod_bd {b width:Int}(b0:0≤b)(b1:b≤16777216)(w0:0≤width)(w1:width≤200):0≤b*width∧b*width≤3355443200:=by
 refine⟨Int.mul_nonneg b0 w0,?_⟩
 have h1:b*width≤16777216*width:=Int.mul_le_mul_of_nonneg_right b1 w0;omega
theorem FactOk.accept {f:Fct}(h:FactOk f){width:Int}(_w0:0≤width)(_w1:width≤200):0≤accept f.decl f.area f.border width∧accept f.decl f.area f.border width≤268435456:=by
 unfold As.accept;have:=h.d0;have:=h.d1;have:=h.a0;have:=h.a1
 split<;>omega
theorem FactOk.lim {f:Fct}(h:FactOk f){width:Int}(w0:0≤width)(w1:width≤200){r a:Int}(e:lim f width=some (r,a)):2≤r∧r≤6∧0≤a∧a≤268435456:=by
 have ha:=h.accept w0 w1;unfold As.lim at e
 repeat' split at e
 all_goals first|(cases e;done)|(injection e with e;cases e;omega)
theorem FactOk.det {f:Fct}(h:FactOk f){width:Int}(w0:0≤width)(w1:width≤200):0≤(det f width).1∧(det f width).1≤f.decl∧((det f width).2=0↔(det f width).1=f.decl)∧0≤(det f width).2∧(det f width).2≤6:=by
 have h1:0≤(det1 f).1∧(det1 f).1≤f.decl∧((det1 f).2=0↔(det1 f).1=f.decl)∧0≤(det1 f).2∧(det1 f).2≤6:=by
  unfold det1;have:=h.u0;have:=h.d0
  split<;>simp<;>omega
 unfold As.det
 cases e:As.lim f width with
 | none=>exact h1
 | some x =>
   obtain⟨r,a⟩:=x;obtain⟨r0,r1,a0,a1⟩:=h.lim w0 w1 e;simp only
   split
   ·simp only;omega
   ·exact h1
/-! ### lateness -/
structure Lat where
 due:Int
 last:Int
 mille:Int
def chkL (l:Lat):Int:=if l.due<0∨l.last<l.due∨36864<l.last∨l.mille<0∨1000<l.mille then 66 else 0
def dayB (n:Int):Bool:=decide (0≤n)&&decide (n≤36864)
def bef (d:Int):Int:=d / 7*5+min (d % 7) 5
def days (a b:Int):Int:=if dayB a=false∨dayB b=false∨b≤a then 0 else bef (b+1) - bef (a+1)
theorem bef_succ {d:Int}(_h:0≤d):bef (d+1)=bef d+if d % 7<5 then 1 else 0:=by
 unfold bef
 split<;>omega
theorem days_bd (a b:Int):0≤days a b∧days a b≤36864:=by
 unfold days
 split
 ·omega
 ·rename_i h
  unfold dayB at h;simp only[Bool.and_eq_false_iff,decide_eq_false_iff_not]at h;unfold bef;omega
def left (l:Lat) (at_ qU:Int):Int :=
 if at_≤l.due then qU else if l.last<at_ then 0 else qU*max 0 (1000 - l.mille*days l.due at_) / 1000
def payE (l:Lat) (at_ qU:Int):Int:=if chkL l≠0 then 66 else if dayB at_=false then 9 else if qU<0∨68719476736<qU then 67 else 0
def payV (l:Lat) (at_ qU:Int):Int:=if payE l at_ qU≠0 then 0 else left l at_ qU
structure nP (l:Lat):Prop where
 d0:0≤l.due
 d1:l.due≤l.last
 d2:l.last≤36864
 m0:0≤l.mille
 m1:l.mille≤1000
theorem latOk {l:Lat}(h:chkL l=0):nP l:=by
 unfold chkL at h
 split at h
 ·cases h
 ·exact⟨by omega,by omega,by omega,by omega,by omega⟩
theorem share_bd {a p:Int}(a0:0≤a)(p0:0≤p)(p1:p≤1000):0≤a*p / 1000∧a*p / 1000≤a:=by
 have h1:0≤a*p:=Int.mul_nonneg a0 p0;have h2:a*p≤a*1000:=Int.mul_le_mul_of_nonneg_left p1 a0;omega
theorem nP.left {l:Lat}(h:nP l)(at_:Int){qU:Int}(a0:0≤qU):0≤left l at_ qU∧left l at_ qU≤qU:=by
 unfold As.left
 split
 ·omega
 split
 ·omega
 ·have h1:=days_bd l.due at_
  have h2:0≤l.mille*days l.due at_:=Int.mul_nonneg h.m0 h1.1;exact share_bd a0 (by omega) (by omega)
end Go.Proofs.YtefcalgjnkigjaaGreat.As
